/- An abstract layer over the model, of this session's own: part AbC. -/
import Derived.Test.YtlfihcndchjgcaaAbB
import Derived.ChangeArms
import Derived.OpenShut
import Derived.DataReads
import Derived.FnData
import Derived.LaidMore
import GoSem.ClaimJoined
import Derived.WideShapes
import Derived.Carry
import Derived.ChangeShapes
set_option linter.unusedVariables false
set_option linter.unusedSimpArgs false
namespace Go.Ab
open Go

/-! ### Environments as lists of what is known -/
abbrev AL := List (Nat × Value)
def lk : AL → Nat → Option Value
  | [], _ => none
  | (j, v) :: r, i => bif Nat.beq i j then some v else lk r i
def E (e : Env) (al : AL) : Env := fun i => match lk al i with | some v => v | none => e i
theorem beq_ne {i d : Nat} (h : i ≠ d) : Nat.beq i d = false := by
  cases hb : Nat.beq i d with
  | false => rfl
  | true => exact absurd (Nat.eq_of_beq_eq_true hb) h
theorem upd_E (e : Env) (al : AL) (d : Nat) (v : Value) : upd (E e al) d v = E e ((d, v) :: al) := by
  funext i
  by_cases h : i = d
  · subst h; simp [upd, E, lk]
  · simp only [upd, E, lk, if_neg h, beq_ne h, cond_false]
theorem E_lk {e : Env} {al : AL} {i : Nat} {v : Value} (h : lk al i = some v) : E e al i = v := by unfold E; rw [h]
def evL (al : AL) : Operand → Option Value
  | .tmp t => lk al t
  | .const v => some v
  | .global g => some (.pointer (some ⟨g, 0, none⟩))
  | .func f => some (.func (.func f) #[] #[])
theorem ev_E {e : Env} {al : AL} {x : Operand} {v : Value} (h : evL al x = some v) : ev (E e al) x = v := by
  cases x with
  | tmp t => exact E_lk h
  | const c => simpa [evL, ev] using h
  | global g => simpa [evL, ev] using h
  | func f => simpa [evL, ev] using h
def evsL (al : AL) : List Operand → Option (List Value)
  | [] => some []
  | x :: r => match evsL al r with
    | none => none
    | some vs => match evL al x with
      | none => none
      | some v => some (v :: vs)
theorem evs_E {e : Env} {al : AL} : ∀ {xs : List Operand} {vs : List Value}, evsL al xs = some vs → xs.map (ev (E e al)) = vs
  | [], vs, h => by simp only [evsL, Option.some.injEq] at h; subst h; rfl
  | x :: r, vs, h => by
    simp only [evsL] at h
    split at h
    · simp at h
    · rename_i vs' h1
      split at h
      · simp at h
      · rename_i v h2
        simp only [Option.some.injEq] at h; subst h
        simp only [List.map_cons, ev_E h2, evs_E h1]
def keepL (al : AL) : List Nat → Option AL
  | [] => some []
  | k :: r => match keepL al r with
    | none => none
    | some l => match lk al k with
      | none => none
      | some v => some ((k, v) :: l)

/-! ### What is to be shown, behind words that nothing unfolds -/
structure Ops (P : Program) (os : List AOper) (K : Env → Heap → Prop) (X : Value → Heap → Prop) (e : Env) (al : AL) (H : Heap) : Prop where
  h : AOps P os K X (E e al) H
structure Wk (P : Program) (c : ACode) (Q : Post) (e : Env) (al : AL) (H : Heap) : Prop where
  h : AW P c Q (E e al) H
structure Pst (Q : Post) (x : AEx) (e : Env) (al : AL) (H : Heap) : Prop where
  h : Q x (E e al) H
structure Cn (N : Env → Heap → Prop) (e : Env) (al : AL) (H : Heap) : Prop where
  h : N (E e al) H

section
variable {P : Program} {Q : Post} {e : Env} {al : AL} {H : Heap} {K N : Env → Heap → Prop} {X : Value → Heap → Prop} {os : List AOper} {k a b : ACode} {d : Nat}

theorem k_reg {ops : List AOper} (h : Ops P ops (AW P k Q) (panP Q) e al H) : Wk P (.reg ops k) Q e al H := ⟨h.h⟩
theorem k_both (h1 : Wk P a Q e al H) (h2 : Wk P b Q e al H) : Wk P (.both a b) Q e al H := ⟨⟨h1.h, h2.h⟩⟩
theorem k_nil (h : Pst Q .normal e al H) : Wk P .nil Q e al H := ⟨h.h⟩
theorem k_ret (h : Pst Q .ret e al H) : Wk P .ret Q e al H := ⟨h.h⟩
theorem k_exit {i : Nat} (h : Pst Q (.exit i) e al H) : Wk P (.exit i) Q e al H := ⟨h.h⟩
theorem k_label {l : Nat} (h : Wk P k Q e al H) : Wk P (.label l k) Q e al H := ⟨h.h⟩
theorem k_block {i : Nat} (h : Wk P b (blkP i (AW P k Q) Q) e al H) : Wk P (.block i b k) Q e al H := ⟨h.h⟩
theorem k_condT {c : Operand} (hc : evL al c = some (.bool true)) (h : Wk P a (thenP (AW P k Q) Q) e al H) : Wk P (.cond c a b k) Q e al H :=
  ⟨⟨true, ev_E hc, by rw [if_pos rfl]; exact h.h⟩⟩
theorem k_condF {c : Operand} (hc : evL al c = some (.bool false)) (h : Wk P b (thenP (AW P k Q) Q) e al H) : Wk P (.cond c a b k) Q e al H :=
  ⟨⟨false, ev_E hc, by rw [if_neg (by simp)]; exact h.h⟩⟩
theorem E_reset {t : Nat} {v : Value} (h : lk al t = some v) : E e ((t, v) :: al) = E e al := by
  rw [← upd_E]; funext i
  unfold upd; split
  · rename_i hi; subst hi; exact (E_lk h).symm
  · rfl
theorem k_cond {t : Nat} {c : Bool} (hc : lk al t = some (.bool c)) (h1 : c = true → Wk P (.cond (.tmp t) a b k) Q e ((t, .bool true) :: al) H) (h2 : c = false → Wk P (.cond (.tmp t) a b k) Q e ((t, .bool false) :: al) H) : Wk P (.cond (.tmp t) a b k) Q e al H := by
  cases c with
  | true => have := (h1 rfl).h; rw [E_reset hc] at this; exact ⟨this⟩
  | false => have := (h2 rfl).h; rw [E_reset hc] at this; exact ⟨this⟩
theorem k_condD {t : Nat} {c : Prop} {i : Decidable c} (hc : lk al t = some (.bool (decide c))) (h1 : c → Wk P (.cond (.tmp t) a b k) Q e ((t, .bool true) :: al) H) (h2 : ¬ c → Wk P (.cond (.tmp t) a b k) Q e ((t, .bool false) :: al) H) : Wk P (.cond (.tmp t) a b k) Q e al H :=
  k_cond hc (fun h => h1 (of_decide_eq_true h)) (fun h => h2 (of_decide_eq_false h))
theorem k_condN {t : Nat} {c : Prop} {i : Decidable (¬ c)} (hc : lk al t = some (.bool (decide (¬ c)))) (h1 : ¬ c → Wk P (.cond (.tmp t) a b k) Q e ((t, .bool true) :: al) H) (h2 : c → Wk P (.cond (.tmp t) a b k) Q e ((t, .bool false) :: al) H) : Wk P (.cond (.tmp t) a b k) Q e al H :=
  k_cond hc (fun h => h1 (of_decide_eq_true h)) (fun h => h2 (Classical.not_not.1 (of_decide_eq_false h)))

theorem q_thenN (h : Cn N e al H) : Pst (thenP N Q) .normal e al H := ⟨h.h⟩
theorem q_thenE {i : Nat} (h : Pst Q (.exit i) e al H) : Pst (thenP N Q) (.exit i) e al H := ⟨h.h⟩
theorem q_thenR (h : Pst Q .ret e al H) : Pst (thenP N Q) .ret e al H := ⟨h.h⟩
theorem q_blkN {i : Nat} (h : Cn N e al H) : Pst (blkP i N Q) .normal e al H := ⟨h.h⟩
theorem q_blkE {i : Nat} (h : Cn N e al H) : Pst (blkP i N Q) (.exit i) e al H := ⟨by simp only [blkP, if_true]; exact h.h⟩
theorem q_blkO {i j : Nat} (hij : Nat.beq j i = false) (h : Pst Q (.exit j) e al H) : Pst (blkP i N Q) (.exit j) e al H := ⟨by
  have : j ≠ i := by rintro rfl; rw [Nat.beq_refl] at hij; cases hij
  simp only [blkP, if_neg this]; exact h.h⟩
theorem q_blkR {i : Nat} (h : Pst Q .ret e al H) : Pst (blkP i N Q) .ret e al H := ⟨h.h⟩
theorem q_funR {t : Nat} {M : AEnd → Heap → Prop} {v : Value} (hv : lk al t = some v) (ht : isTup v = false) (h : M (.ret v) H) : Pst (funP [.tmp t] M) .ret e al H := ⟨⟨[v], by simp [resL, res1, E_lk hv, ht], h⟩⟩
theorem q_funR0 {M : AEnd → Heap → Prop} (h : M (.ret (.tuple #[])) H) : Pst (funP [] M) .ret e al H := ⟨⟨[], rfl, h⟩⟩
theorem q_funN0 {M : AEnd → Heap → Prop} (h : M (.ret (.tuple #[])) H) : Pst (funP [] M) .normal e al H := ⟨⟨[], rfl, h⟩⟩
theorem q_funR2 {t u : Nat} {M : AEnd → Heap → Prop} {v w : Value} (hv : lk al t = some v) (hw : lk al u = some w) (ht : isTup v = false) (hu : isTup w = false) (h : M (.ret (.tuple #[v, w])) H) : Pst (funP [.tmp t, .tmp u] M) .ret e al H :=
  ⟨⟨[v, w], by simp [resL, res1, E_lk hv, ht, E_lk hw, hu], h⟩⟩
theorem q_funR3 {t u s : Nat} {M : AEnd → Heap → Prop} {v w x : Value} (hv : lk al t = some v) (hw : lk al u = some w) (hx : lk al s = some x) (ht : isTup v = false) (hu : isTup w = false) (hs : isTup x = false) (h : M (.ret (.tuple #[v, w, x])) H) : Pst (funP [.tmp t, .tmp u, .tmp s] M) .ret e al H :=
  ⟨⟨[v, w, x], by simp [resL, res1, E_lk hv, ht, E_lk hw, hu, E_lk hx, hs], h⟩⟩
theorem n_W (h : Wk P k Q e al H) : Cn (AW P k Q) e al H := ⟨h.h⟩
theorem o_end (h : Cn K e al H) : Ops P [] K X e al H := ⟨h.h⟩

/-! ### Operations -/
theorem p_pure {op : AOp} {v : Value} (hp : isPure op = true) (hs : ∀ N, StepA P op (ev (E e al)) H N X = ∃ v, pureA P op (ev (E e al)) = some v ∧ N v H) (h : pureA P op (ev (E e al)) = some v) (r : Ops P os K X e ((d, v) :: al) H) : Ops P (A d op :: os) K X e al H := by
  constructor
  rw [o_some, hs]
  refine ⟨v, h, ?_⟩
  rw [kO_app, upd_E]; exact r.h
theorem g_T {j : Nat} {w : Bool} {op : AOp} (hj : lk al j = some (.bool w)) (r : Ops P (A d op :: os) K X e al H) : Ops P (G d j w op :: os) K X e al H := by
  constructor
  have h := r.h
  rw [o_gs, wantA_s, E_lk hj]
  have : wb (.bool w) w = true := by cases w <;> rfl
  rw [this, gO_t, ← o_some]; exact h
theorem g_F {j : Nat} {w : Bool} {op : AOp} (hj : lk al j = some (.bool (!w))) (r : Ops P os K X e ((d, undef) :: al) H) : Ops P (G d j w op :: os) K X e al H := by
  constructor
  have h := r.h
  rw [o_gs, wantA_s, E_lk hj]
  have : wb (.bool (!w)) w = false := by cases w <;> rfl
  rw [this, gO_f, upd_E]; exact h
theorem g_U {j : Nat} {w : Bool} {op : AOp} (hj : lk al j = some undef) (r : Ops P os K X e ((d, undef) :: al) H) : Ops P (G d j w op :: os) K X e al H := by
  constructor
  have h := r.h
  rw [o_gs, wantA_s, E_lk hj]
  have : wb undef w = false := rfl
  rw [this, gO_f, upd_E]; exact h
theorem gs_U {j : Nat} {w : Bool} {op : AOp} (hj : lk al j = some undef) (r : Ops P os K X e al H) : Ops P (GS j w op :: os) K X e al H := by
  constructor
  have h := r.h
  rw [o_gn, wantA_s, E_lk hj]
  have : wb undef w = false := rfl
  rw [this, gN_f]; exact h
theorem gs_T {j : Nat} {w : Bool} {op : AOp} (hj : lk al j = some (.bool w)) (r : Ops P (S op :: os) K X e al H) : Ops P (GS j w op :: os) K X e al H := by
  constructor
  have h := r.h
  rw [o_gn, wantA_s, E_lk hj]
  have : wb (.bool w) w = true := by cases w <;> rfl
  rw [this, gN_t, ← o_none]; exact h
theorem gs_F {j : Nat} {w : Bool} {op : AOp} (hj : lk al j = some (.bool (!w))) (r : Ops P os K X e al H) : Ops P (GS j w op :: os) K X e al H := by
  constructor
  have h := r.h
  rw [o_gn, wantA_s, E_lk hj]
  have : wb (.bool (!w)) w = false := by cases w <;> rfl
  rw [this, gN_f]; exact h
theorem split_t {t : Nat} {c : Bool} {os : List AOper} (hc : lk al t = some (.bool c)) (h1 : c = true → Ops P os K X e ((t, .bool true) :: al) H) (h2 : c = false → Ops P os K X e ((t, .bool false) :: al) H) : Ops P os K X e al H := by
  cases c with
  | true => have := (h1 rfl).h; rw [E_reset hc] at this; exact ⟨this⟩
  | false => have := (h2 rfl).h; rw [E_reset hc] at this; exact ⟨this⟩
theorem g_S {j : Nat} {w : Bool} {op : AOp} {c : Bool} (hc : lk al j = some (.bool c)) (h1 : c = true → Ops P (G d j w op :: os) K X e ((j, .bool true) :: al) H) (h2 : c = false → Ops P (G d j w op :: os) K X e ((j, .bool false) :: al) H) : Ops P (G d j w op :: os) K X e al H := split_t hc h1 h2
theorem g_D {j : Nat} {w : Bool} {op : AOp} {c : Prop} {i : Decidable c} (hc : lk al j = some (.bool (decide c))) (h1 : c → Ops P (G d j w op :: os) K X e ((j, .bool true) :: al) H) (h2 : ¬ c → Ops P (G d j w op :: os) K X e ((j, .bool false) :: al) H) : Ops P (G d j w op :: os) K X e al H :=
  split_t hc (fun h => h1 (of_decide_eq_true h)) (fun h => h2 (of_decide_eq_false h))
theorem g_N {j : Nat} {w : Bool} {op : AOp} {c : Prop} {i : Decidable (¬ c)} (hc : lk al j = some (.bool (decide (¬ c)))) (h1 : ¬ c → Ops P (G d j w op :: os) K X e ((j, .bool true) :: al) H) (h2 : c → Ops P (G d j w op :: os) K X e ((j, .bool false) :: al) H) : Ops P (G d j w op :: os) K X e al H :=
  split_t hc (fun h => h1 (of_decide_eq_true h)) (fun h => h2 (Classical.not_not.1 (of_decide_eq_false h)))
theorem gs_S {j : Nat} {w : Bool} {op : AOp} {c : Bool} (hc : lk al j = some (.bool c)) (h1 : c = true → Ops P (GS j w op :: os) K X e ((j, .bool true) :: al) H) (h2 : c = false → Ops P (GS j w op :: os) K X e ((j, .bool false) :: al) H) : Ops P (GS j w op :: os) K X e al H := split_t hc h1 h2
theorem pk_S {t : Nat} {x y : Operand} {c : Bool} (hc : lk al t = some (.bool c)) (h1 : c = true → Ops P (A d (.pick (.tmp t) x y) :: os) K X e ((t, .bool true) :: al) H) (h2 : c = false → Ops P (A d (.pick (.tmp t) x y) :: os) K X e ((t, .bool false) :: al) H) : Ops P (A d (.pick (.tmp t) x y) :: os) K X e al H := split_t hc h1 h2
theorem pk_D {t : Nat} {x y : Operand} {c : Prop} {i : Decidable c} (hc : lk al t = some (.bool (decide c))) (h1 : c → Ops P (A d (.pick (.tmp t) x y) :: os) K X e ((t, .bool true) :: al) H) (h2 : ¬ c → Ops P (A d (.pick (.tmp t) x y) :: os) K X e ((t, .bool false) :: al) H) : Ops P (A d (.pick (.tmp t) x y) :: os) K X e al H :=
  split_t hc (fun h => h1 (of_decide_eq_true h)) (fun h => h2 (of_decide_eq_false h))
theorem pk_N {t : Nat} {x y : Operand} {c : Prop} {i : Decidable (¬ c)} (hc : lk al t = some (.bool (decide (¬ c)))) (h1 : ¬ c → Ops P (A d (.pick (.tmp t) x y) :: os) K X e ((t, .bool true) :: al) H) (h2 : c → Ops P (A d (.pick (.tmp t) x y) :: os) K X e ((t, .bool false) :: al) H) : Ops P (A d (.pick (.tmp t) x y) :: os) K X e al H :=
  split_t hc (fun h => h1 (of_decide_eq_true h)) (fun h => h2 (Classical.not_not.1 (of_decide_eq_false h)))

section
variable {x y z : Operand} {u v w r : Value}
theorem p_mv (hx : evL al x = some v) (r : Ops P os K X e ((d, v) :: al) H) : Ops P (A d (.mv x) :: os) K X e al H :=
  p_pure (op := .mv x) rfl (fun _ => by simp [StepA, isPure]) (congrArg some (ev_E hx)) r
theorem p_pkT (hx : evL al x = some (.bool true)) (hy : evL al y = some v) (r : Ops P os K X e ((d, v) :: al) H) : Ops P (A d (.pick x y z) :: os) K X e al H :=
  p_pure (op := .pick x y z) rfl (fun _ => by simp [StepA, isPure]) (by show pickA _ _ _ = _; rw [ev_E hx, ev_E hy]; rfl) r
theorem p_pkF (hx : evL al x = some (.bool false)) (hy : evL al z = some v) (r : Ops P os K X e ((d, v) :: al) H) : Ops P (A d (.pick x y z) :: os) K X e al H :=
  p_pure (op := .pick x y z) rfl (fun _ => by simp [StepA, isPure]) (by show pickA _ _ _ = _; rw [ev_E hx, ev_E hy]; rfl) r
theorem p_bin {op : BinOp} (hx : evL al x = some u) (hy : evL al y = some v) (h : binA op u v = some w) (r : Ops P os K X e ((d, w) :: al) H) : Ops P (A d (.bin op x y) :: os) K X e al H :=
  p_pure (op := .bin op x y) rfl (fun _ => by simp [StepA, isPure]) (by show binA _ _ _ = _; rw [ev_E hx, ev_E hy]; exact h) r
theorem p_add {kd : IntKind} {m n : Int} (hx : evL al x = some (.int kd m)) (hy : evL al y = some (.int kd n)) (h : kd.wrap (m + n) = m + n) (r : Ops P os K X e ((d, .int kd (m + n)) :: al) H) : Ops P (A d (.bin .add x y) :: os) K X e al H :=
  p_bin hx hy (by show (if kd = kd then _ else _) = _; rw [if_pos rfl]; show some (Value.int kd (kd.wrap (m + n))) = _; rw [h]) r
theorem p_sub {kd : IntKind} {m n : Int} (hx : evL al x = some (.int kd m)) (hy : evL al y = some (.int kd n)) (h : kd.wrap (m - n) = m - n) (r : Ops P os K X e ((d, .int kd (m - n)) :: al) H) : Ops P (A d (.bin .sub x y) :: os) K X e al H :=
  p_bin hx hy (by show (if kd = kd then _ else _) = _; rw [if_pos rfl]; show some (Value.int kd (kd.wrap (m - n))) = _; rw [h]) r
theorem p_mul {kd : IntKind} {m n : Int} (hx : evL al x = some (.int kd m)) (hy : evL al y = some (.int kd n)) (h : kd.wrap (m * n) = m * n) (r : Ops P os K X e ((d, .int kd (m * n)) :: al) H) : Ops P (A d (.bin .mul x y) :: os) K X e al H :=
  p_bin hx hy (by show (if kd = kd then _ else _) = _; rw [if_pos rfl]; show some (Value.int kd (kd.wrap (m * n))) = _; rw [h]) r
theorem p_rem {kd : IntKind} {m n : Int} (hx : evL al x = some (.int kd m)) (hy : evL al y = some (.int kd n)) (h : n ≠ 0) (r : Ops P os K X e ((d, .int kd (m.tmod n)) :: al) H) : Ops P (A d (.bin .rem x y) :: os) K X e al H :=
  p_bin hx hy (by show (if kd = kd then _ else _) = _; rw [if_pos rfl]; show (if n = 0 then _ else _) = _; rw [if_neg h]) r
theorem p_shl {kd k2 : IntKind} {m n : Int} (hx : evL al x = some (.int kd m)) (hy : evL al y = some (.int k2 n)) (h : 0 ≤ n) (r : Ops P os K X e ((d, .int kd (kd.wrap (m * 2 ^ (min n.toNat kd.bits)))) :: al) H) : Ops P (A d (.bin .shl x y) :: os) K X e al H :=
  p_bin hx hy (by show (if n < 0 then _ else _) = _; rw [if_neg (by omega)]) r
theorem p_shr {kd k2 : IntKind} {m n : Int} (hx : evL al x = some (.int kd m)) (hy : evL al y = some (.int k2 n)) (h : 0 ≤ n) (r : Ops P os K X e ((d, .int kd (m.fdiv (2 ^ (min n.toNat kd.bits)))) :: al) H) : Ops P (A d (.bin .shr x y) :: os) K X e al H :=
  p_bin hx hy (by show (if n < 0 then _ else _) = _; rw [if_neg (by omega)]) r
theorem p_and {kd : IntKind} {m n : Int} (hx : evL al x = some (.int kd m)) (hy : evL al y = some (.int kd n)) (r : Ops P os K X e ((d, .int kd (kd.wrap (BitVec.ofInt kd.bits m &&& BitVec.ofInt kd.bits n).toNat)) :: al) H) : Ops P (A d (.bin .and x y) :: os) K X e al H :=
  p_bin hx hy (by show (if kd = kd then _ else _) = _; rw [if_pos rfl]; rfl) r
theorem p_or {kd : IntKind} {m n : Int} (hx : evL al x = some (.int kd m)) (hy : evL al y = some (.int kd n)) (r : Ops P os K X e ((d, .int kd (kd.wrap (BitVec.ofInt kd.bits m ||| BitVec.ofInt kd.bits n).toNat)) :: al) H) : Ops P (A d (.bin .or x y) :: os) K X e al H :=
  p_bin hx hy (by show (if kd = kd then _ else _) = _; rw [if_pos rfl]; rfl) r
theorem p_quo {kd : IntKind} {m n : Int} (hx : evL al x = some (.int kd m)) (hy : evL al y = some (.int kd n)) (h : n ≠ 0) (hw : kd.wrap (m.tdiv n) = m.tdiv n) (r : Ops P os K X e ((d, .int kd (m.tdiv n)) :: al) H) : Ops P (A d (.bin .quo x y) :: os) K X e al H :=
  p_bin hx hy (by show (if kd = kd then _ else _) = _; rw [if_pos rfl]; show (if n = 0 then _ else _) = _; rw [if_neg h, hw]) r
theorem p_seq {m n : ByteArray} (hx : evL al x = some (.string m)) (hy : evL al y = some (.string n)) (r : Ops P os K X e ((d, .bool (decide (m.toList = n.toList))) :: al) H) : Ops P (A d (.bin .eql x y) :: os) K X e al H :=
  p_bin hx hy (by show some (Value.bool (m.toList == n.toList)) = _; rw [show (m.toList == n.toList) = decide (m.toList = n.toList) from by rw [Bool.eq_iff_iff]; simp]) r
theorem p_eql {kd : IntKind} {m n : Int} (hx : evL al x = some (.int kd m)) (hy : evL al y = some (.int kd n)) (r : Ops P os K X e ((d, .bool (decide (m = n))) :: al) H) : Ops P (A d (.bin .eql x y) :: os) K X e al H :=
  p_bin hx hy (by show (if kd = kd then _ else _) = _; rw [if_pos rfl]; show some (Value.bool (m == n)) = _; rw [show (m == n) = decide (m = n) from by rw [Bool.eq_iff_iff]; simp]) r
theorem p_neq {kd : IntKind} {m n : Int} (hx : evL al x = some (.int kd m)) (hy : evL al y = some (.int kd n)) (r : Ops P os K X e ((d, .bool (decide (¬ (m = n)))) :: al) H) : Ops P (A d (.bin .neq x y) :: os) K X e al H :=
  p_bin hx hy (by show (if kd = kd then _ else _) = _; rw [if_pos rfl]; show some (Value.bool (m != n)) = _; rw [show (m != n) = decide (¬ (m = n)) from by rw [Bool.eq_iff_iff]; simp]) r
theorem p_lss {kd : IntKind} {m n : Int} (hx : evL al x = some (.int kd m)) (hy : evL al y = some (.int kd n)) (r : Ops P os K X e ((d, .bool (decide (m < n))) :: al) H) : Ops P (A d (.bin .lss x y) :: os) K X e al H :=
  p_bin hx hy (by show (if kd = kd then _ else _) = _; rw [if_pos rfl]; rfl) r
theorem p_leq {kd : IntKind} {m n : Int} (hx : evL al x = some (.int kd m)) (hy : evL al y = some (.int kd n)) (r : Ops P os K X e ((d, .bool (decide (m ≤ n))) :: al) H) : Ops P (A d (.bin .leq x y) :: os) K X e al H :=
  p_bin hx hy (by show (if kd = kd then _ else _) = _; rw [if_pos rfl]; rfl) r
theorem p_gtr {kd : IntKind} {m n : Int} (hx : evL al x = some (.int kd m)) (hy : evL al y = some (.int kd n)) (r : Ops P os K X e ((d, .bool (decide (n < m))) :: al) H) : Ops P (A d (.bin .gtr x y) :: os) K X e al H :=
  p_bin hx hy (by show (if kd = kd then _ else _) = _; rw [if_pos rfl]; rfl) r
theorem p_geq {kd : IntKind} {m n : Int} (hx : evL al x = some (.int kd m)) (hy : evL al y = some (.int kd n)) (r : Ops P os K X e ((d, .bool (decide (n ≤ m))) :: al) H) : Ops P (A d (.bin .geq x y) :: os) K X e al H :=
  p_bin hx hy (by show (if kd = kd then _ else _) = _; rw [if_pos rfl]; rfl) r
theorem p_eqB {n a b : Bool} (hx : evL al x = some (.bool a)) (hy : evL al y = some (.bool b)) (r : Ops P os K X e ((d, .bool ((a == b) != n)) :: al) H) : Ops P (A d (.eqB n x y) :: os) K X e al H :=
  p_pure (op := .eqB n x y) rfl (fun _ => by simp [StepA, isPure]) (by show eqBA _ _ _ = _; rw [ev_E hx, ev_E hy]; rfl) r
theorem p_eqG {op : BinOp} {t : TypeId} (hx : evL al x = some u) (hy : evL al y = some v) (h : eqGA P op t x y u v = some w) (r : Ops P os K X e ((d, w) :: al) H) : Ops P (A d (.eqG op t x y) :: os) K X e al H :=
  p_pure (op := .eqG op t x y) rfl (fun _ => by simp [StepA, isPure]) (by show eqGA _ _ _ _ _ _ _ = _; rw [ev_E hx, ev_E hy]; exact h) r
theorem p_isnil {kd : Nat} {n b : Bool} (hx : evL al x = some u) (h : nilA kd u = some b) (r : Ops P os K X e ((d, .bool (b != n)) :: al) H) : Ops P (A d (.isnil kd n x) :: os) K X e al H :=
  p_pure (op := .isnil kd n x) rfl (fun _ => by simp [StepA, isPure]) (by show (nilA _ _).map _ = _; rw [ev_E hx, h]; rfl) r
theorem p_notD {c : Prop} {i : Decidable c} (hx : evL al x = some (.bool (decide c))) (r : Ops P os K X e ((d, .bool (decide (¬ c))) :: al) H) : Ops P (A d (.un .not x) :: os) K X e al H :=
  p_pure (op := .un .not x) rfl (fun _ => by simp [StepA, isPure]) (by show unA _ _ = _; rw [ev_E hx]; show some (Value.bool _) = _; congr 2; exact decide_not.symm) r
theorem p_un {op : UnOp} (hx : evL al x = some u) (h : unA op u = some w) (r : Ops P os K X e ((d, w) :: al) H) : Ops P (A d (.un op x) :: os) K X e al H :=
  p_pure (op := .un op x) rfl (fun _ => by simp [StepA, isPure]) (by show unA _ _ = _; rw [ev_E hx]; exact h) r
theorem p_cvI {k1 k2 : IntKind} {n : Int} (hx : evL al x = some (.int k2 n)) (r : Ops P os K X e ((d, .int k1 (k1.wrap n)) :: al) H) : Ops P (A d (.cvI k1 x) :: os) K X e al H :=
  p_pure (op := .cvI k1 x) rfl (fun _ => by simp [StepA, isPure]) (by show cvIA _ _ = _; rw [ev_E hx]; rfl) r
theorem p_cvIw {k1 k2 : IntKind} {n : Int} (hx : evL al x = some (.int k2 n)) (h : k1.wrap n = n) (r : Ops P os K X e ((d, .int k1 n) :: al) H) : Ops P (A d (.cvI k1 x) :: os) K X e al H :=
  p_cvI hx (by rw [h]; exact r)
theorem p_cvF {k1 : FloatKind} {k2 : IntKind} {n : Int} (hx : evL al x = some (.int k2 n)) (r : Ops P os K X e ((d, .float k1 (k1.nearest n)) :: al) H) : Ops P (A d (.cvF k1 x) :: os) K X e al H :=
  p_pure (op := .cvF k1 x) rfl (fun _ => by simp [StepA, isPure]) (by show cvFA _ _ = _; rw [ev_E hx]; rfl) r
theorem p_nilc (hx : evL al x = some u) (h : nilcA u = some w) (r : Ops P os K X e ((d, w) :: al) H) : Ops P (A d (.nilc x) :: os) K X e al H :=
  p_pure (op := .nilc x) rfl (fun _ => by simp [StepA, isPure]) (by show nilcA _ = _; rw [ev_E hx]; exact h) r
theorem p_fa {off : Nat} (hx : evL al x = some u) (h : faA off u = some w) (r : Ops P os K X e ((d, w) :: al) H) : Ops P (A d (.fa off x) :: os) K X e al H :=
  p_pure (op := .fa off x) rfl (fun _ => by simp [StepA, isPure]) (by show faA _ _ = _; rw [ev_E hx]; exact h) r
theorem p_ia {size : Nat} (hx : evL al x = some u) (hy : evL al y = some v) (h : iaS size u v = some w) (r : Ops P os K X e ((d, w) :: al) H) : Ops P (A d (.ia size x y) :: os) K X e al H :=
  p_pure (op := .ia size x y) rfl (fun _ => by simp [StepA, isPure]) (by show iaS _ _ _ = _; rw [ev_E hx, ev_E hy]; exact h) r
theorem p_iaA {len size : Nat} (hx : evL al x = some u) (hy : evL al y = some v) (h : iaP len size u v = some w) (r : Ops P os K X e ((d, w) :: al) H) : Ops P (A d (.iaA len size x y) :: os) K X e al H :=
  p_pure (op := .iaA len size x y) rfl (fun _ => by simp [StepA, isPure]) (by show iaP _ _ _ _ = _; rw [ev_E hx, ev_E hy]; exact h) r
theorem p_fld {n : Option Nat} {off : Nat} (hx : evL al x = some u) (h : fldA n off u = some w) (r : Ops P os K X e ((d, w) :: al) H) : Ops P (A d (.fld n off x) :: os) K X e al H :=
  p_pure (op := .fld n off x) rfl (fun _ => by simp [StepA, isPure]) (by show fldA _ _ _ = _; rw [ev_E hx]; exact h) r
theorem p_ixS (hx : evL al x = some u) (hy : evL al y = some v) (h : ixSA u v = some w) (r : Ops P os K X e ((d, w) :: al) H) : Ops P (A d (.ixS x y) :: os) K X e al H :=
  p_pure (op := .ixS x y) rfl (fun _ => by simp [StepA, isPure]) (by show ixSA _ _ = _; rw [ev_E hx, ev_E hy]; exact h) r
theorem p_ixA {n : Option Nat} {len size : Nat} (hx : evL al x = some u) (hy : evL al y = some v) (h : ixAA n len size u v = some w) (r : Ops P os K X e ((d, w) :: al) H) : Ops P (A d (.ixA n len size x y) :: os) K X e al H :=
  p_pure (op := .ixA n len size x y) rfl (fun _ => by simp [StepA, isPure]) (by show ixAA _ _ _ _ _ = _; rw [ev_E hx, ev_E hy]; exact h) r
theorem p_ext {i : Nat} {vs : Array Value} (hx : evL al x = some (.tuple vs)) (h : vs[i]? = some w) (r : Ops P os K X e ((d, w) :: al) H) : Ops P (A d (.ext x i) :: os) K X e al H :=
  p_pure (op := .ext x i) rfl (fun _ => by simp [StepA, isPure]) (by show extA _ _ = _; rw [ev_E hx]; exact h) r
theorem p_len (hx : evL al x = some u) (h : lenA u = some w) (r : Ops P os K X e ((d, w) :: al) H) : Ops P (A d (.len x) :: os) K X e al H :=
  p_pure (op := .len x) rfl (fun _ => by simp [StepA, isPure]) (by show lenA _ = _; rw [ev_E hx]; exact h) r
theorem p_lenS {s : ByteArray} (hx : evL al x = some (.string s)) (r : Ops P os K X e ((d, .int .i64 s.size) :: al) H) : Ops P (A d (.lenS x) :: os) K X e al H :=
  p_pure (op := .lenS x) rfl (fun _ => by simp [StepA, isPure]) (by show lenSA _ = _; rw [ev_E hx]; rfl) r
theorem p_sl {size : Nat} {lo hi mx : Option Operand} {vlo vhi vmx : Option Value} (hx : evL al x = some u) (h1 : lo.map (evL al) = vlo.map some) (h2 : hi.map (evL al) = vhi.map some) (h3 : mx.map (evL al) = vmx.map some) (h : slA size u vlo vhi vmx = some w) (r : Ops P os K X e ((d, w) :: al) H) : Ops P (A d (.sl size x lo hi mx) :: os) K X e al H := by
  have g : ∀ {o : Option Operand} {v : Option Value}, o.map (evL al) = v.map some → o.map (ev (E e al)) = v := by
    intro o v h
    cases o with
    | none => cases v with | none => rfl | some v => simp at h
    | some o => cases v with | none => simp at h | some v => simp only [Option.map_some, Option.some.injEq] at h ⊢; exact ev_E h
  refine p_pure (op := .sl size x lo hi mx) rfl (fun _ => by simp [StepA, isPure]) ?_ r
  show slA _ _ _ _ _ = _
  rw [ev_E hx, g h1, g h2, g h3]; exact h
theorem p_slS {lo hi : Option Operand} {vlo vhi : Option Value} (hx : evL al x = some u) (h1 : lo.map (evL al) = vlo.map some) (h2 : hi.map (evL al) = vhi.map some) (h : slSA u vlo vhi = some w) (r : Ops P os K X e ((d, w) :: al) H) : Ops P (A d (.slS x lo hi) :: os) K X e al H := by
  have g : ∀ {o : Option Operand} {v : Option Value}, o.map (evL al) = v.map some → o.map (ev (E e al)) = v := by
    intro o v h
    cases o with
    | none => cases v with | none => rfl | some v => simp at h
    | some o => cases v with | none => simp at h | some v => simp only [Option.map_some, Option.some.injEq] at h ⊢; exact ev_E h
  refine p_pure (op := .slS x lo hi) rfl (fun _ => by simp [StepA, isPure]) ?_ r
  show slSA _ _ _ = _
  rw [ev_E hx, g h1, g h2]; exact h
theorem p_mx2 {kd : IntKind} {m n : Int} (hx : evL al x = some (.int kd m)) (hy : evL al y = some (.int kd n)) (r : Ops P os K X e ((d, .int kd (max m n)) :: al) H) : Ops P (A d (.mx [x, y]) :: os) K X e al H := by
  refine p_pure (op := .mx [x, y]) rfl (fun _ => by simp [StepA, isPure]) ?_ r
  show mxA [_, _] = _
  rw [ev_E hx, ev_E hy]
  simp only [mxA, List.foldlM, mx2, Option.bind_eq_bind, Option.bind_some, Option.pure_def]; congr 2; split <;> omega
theorem p_mn2 {kd : IntKind} {m n : Int} (hx : evL al x = some (.int kd m)) (hy : evL al y = some (.int kd n)) (r : Ops P os K X e ((d, .int kd (min m n)) :: al) H) : Ops P (A d (.mn [x, y]) :: os) K X e al H := by
  refine p_pure (op := .mn [x, y]) rfl (fun _ => by simp [StepA, isPure]) ?_ r
  show mnA [_, _] = _
  rw [ev_E hx, ev_E hy]
  simp only [mnA, List.foldlM, mn2, Option.bind_eq_bind, Option.bind_some, Option.pure_def]; congr 2; split <;> omega
theorem p_re (hx : evL al x = some u) (h : reA u = some w) (r : Ops P os K X e ((d, w) :: al) H) : Ops P (A d (.re x) :: os) K X e al H :=
  p_pure (op := .re x) rfl (fun _ => by simp [StepA, isPure]) (by show reA _ = _; rw [ev_E hx]; exact h) r
theorem p_im (hx : evL al x = some u) (h : imA u = some w) (r : Ops P os K X e ((d, w) :: al) H) : Ops P (A d (.im x) :: os) K X e al H :=
  p_pure (op := .im x) rfl (fun _ => by simp [StepA, isPure]) (by show imA _ = _; rw [ev_E hx]; exact h) r
theorem p_cx (hx : evL al x = some u) (hy : evL al y = some v) (h : cxA u v = some w) (r : Ops P os K X e ((d, w) :: al) H) : Ops P (A d (.cx x y) :: os) K X e al H :=
  p_pure (op := .cx x y) rfl (fun _ => by simp [StepA, isPure]) (by show cxA _ _ = _; rw [ev_E hx, ev_E hy]; exact h) r
theorem p_nat {f : FuncId} {xs : List Operand} {us : List Value} (hx : evsL al xs = some us) (h : natA P f us = some w) (r : Ops P os K X e ((d, w) :: al) H) : Ops P (A d (.nat f xs) :: os) K X e al H :=
  p_pure (op := .nat f xs) rfl (fun _ => by simp [StepA, isPure]) (by show natA _ _ _ = _; rw [evs_E hx]; exact h) r
theorem p_mki {t : TypeId} (hx : evL al x = some u) (h : mkiA t u = some w) (r : Ops P os K X e ((d, w) :: al) H) : Ops P (A d (.mki t x) :: os) K X e al H :=
  p_pure (op := .mki t x) rfl (fun _ => by simp [StepA, isPure]) (by show mkiA _ _ = _; rw [ev_E hx]; exact h) r
def fillL (al : AL) : List (Nat × Nat × Operand) → List Value → Option (List Value)
  | [], cs => some cs
  | (off, size, x) :: rest, cs => match evL al x with
    | none => none
    | some v => if isTup v = false ∧ (cellsV v).length = size ∧ off + size ≤ cs.length then fillL al rest (putCells cs off (cellsV v)) else none
theorem fill_E : ∀ {ps : List (Nat × Nat × Operand)} {z cs : List Value}, fillL al ps z = some cs → fillA (ev (E e al)) ps z = some cs
  | [], z, cs, h => h
  | (off, size, x) :: rest, z, cs, h => by
    simp only [fillL] at h
    split at h
    · simp at h
    · rename_i v hv
      simp only [fillA, ev_E hv]
      split at h
      · rename_i hc; rw [if_pos hc]; exact fill_E h
      · simp at h
theorem p_bld {ps : List (Nat × Nat × Operand)} {z cs : List Value} (h : fillL al ps z = some cs) (r : Ops P os K X e ((d, .agg cs.toArray) :: al) H) : Ops P (A d (.bld z ps) :: os) K X e al H :=
  p_pure (op := .bld z ps) rfl (fun _ => by simp [StepA, isPure]) (by show (fillA _ _ _).map _ = _; rw [fill_E h]; rfl) r
theorem p_mkf {f : FuncId} {xs ys : List Operand} {us vs : List Value} (hx : evsL al xs = some us) (hy : evsL al ys = some vs) (h : (us.all isP && vs.all isP) = true) (r : Ops P os K X e ((d, .func (.func f) us.toArray vs.toArray) :: al) H) : Ops P (A d (.mkf f xs ys) :: os) K X e al H := by
  refine p_pure (op := .mkf f xs ys) rfl (fun _ => by simp [StepA, isPure]) ?_ r
  show (if _ then _ else _) = _
  rw [evs_E hx, evs_E hy, if_pos h]
/-! Memory. -/
theorem p_ld {n : Option Nat} (hx : evL al x = some u) (h : ldA n H u = some w) (r : Ops P os K X e ((d, w) :: al) H) : Ops P (A d (.ld n x) :: os) K X e al H := by
  constructor
  rw [o_some, s_ld, ev_E hx, h, onS_some, kO_app, upd_E]; exact r.h
theorem p_st {n : Nat} {H' : Heap} (hx : evL al x = some u) (hy : evL al y = some v) (h : stA n H u v = some H') (r : Ops P os K X e al H') : Ops P (S (.st n x y) :: os) K X e al H := by
  constructor
  rw [o_none, s_st, ev_E hx, ev_E hy, h, onH_some, kN_app]; exact r.h
theorem p_bx (hx : evL al x = some u) (ht : isTup u = false) (r : Ops P os K X e ((d, .pointer (some ⟨H.next, 0, none⟩)) :: al) (H.push ⟨cellsV u, true, none⟩)) : Ops P (A d (.bx x) :: os) K X e al H := by
  constructor
  rw [o_some, s_bx, ev_E hx, ht, onB_f, kO_app, upd_E]; exact r.h
theorem p_al {z : List Value} (r : Ops P os K X e ((d, .pointer (some ⟨H.next, 0, none⟩)) :: al) (H.push ⟨z, true, none⟩)) : Ops P (A d (.al z) :: os) K X e al H := by
  constructor
  rw [o_some, s_al, onB_f, kO_app, upd_E]; exact r.h
theorem p_bs {len size : Nat} {z cs : List Value} {ps : List (Nat × Nat × Operand)} (h : fillL al ps (replA len z) = some cs) (r : Ops P os K X e ((d, mkS H.next len ((2 * len + 1) * 64 + size)) :: al) (H.push ⟨cs, true, none⟩)) : Ops P (A d (.bs len size z ps) :: os) K X e al H := by
  constructor
  rw [o_some, s_bs, fill_E h, onL_some, kO_app, upd_E]; exact r.h
theorem p_ms {size bytes : Nat} {z : List Value} {H' : Heap} (hx : evL al x = some u) (hy : evL al y = some v) (h : msA size bytes z H u v = some (w, H')) (r : Ops P os K X e ((d, w) :: al) H') : Ops P (A d (.ms size bytes z x y) :: os) K X e al H := by
  constructor
  rw [o_some, s_ms, ev_E hx, ev_E hy, h, onM_some, kO_app, upd_E]; exact r.h
theorem p_app {size bytes : Nat} {z : List Value} {H' : Heap} (hx : evL al x = some u) (hy : evL al y = some v) (h : appA size bytes H u v = some (w, H')) (r : Ops P os K X e ((d, w) :: al) H') : Ops P (A d (.app size bytes z x y) :: os) K X e al H := by
  constructor
  rw [o_some, s_app, ev_E hx, ev_E hy, h, onM_some, kO_app, upd_E]; exact r.h
theorem p_clr {size : Nat} {z : List Value} {H' : Heap} (hx : evL al x = some u) (h : clrA z H u = some H') (r : Ops P os K X e ((d, .tuple #[]) :: al) H') : Ops P (A d (.clr size z x) :: os) K X e al H := by
  constructor
  rw [o_some, s_clr, ev_E hx, h, onH_some, kO_app, upd_E]; exact r.h
theorem p_clrS {size : Nat} {z : List Value} {H' : Heap} (hx : evL al x = some u) (h : clrA z H u = some H') (r : Ops P os K X e al H') : Ops P (S (.clr size z x) :: os) K X e al H := by
  constructor
  rw [o_none, s_clr, ev_E hx, h, onH_some, kN_app]; exact r.h
/-! Calls. -/
theorem p_call {f : FuncId} {args : List Operand} {vs : List Value} (ha : evsL al args = some vs) (h : ACall P f vs H (EndK (fun v H' => Ops P os K X e ((d, v) :: al) H') X)) : Ops P (A d (.call f args) :: os) K X e al H := by
  constructor
  rw [o_some, s_call, evs_E ha]
  refine h.mono ?_
  intro en H' h
  cases en with
  | ret v => show kO P os K X (E e al) d v H'; rw [kO_app, upd_E]; exact h.h
  | panic v => exact h
theorem p_callS {f : FuncId} {args : List Operand} {vs : List Value} (ha : evsL al args = some vs) (h : ACall P f vs H (EndK (fun v H' => Ops P os K X e al H') X)) : Ops P (S (.call f args) :: os) K X e al H := by
  constructor
  rw [o_none, s_call, evs_E ha]
  refine h.mono ?_
  intro en H' h
  cases en with
  | ret v => show kN P os K X (E e al) v H'; rw [kN_app]; exact h.h
  | panic v => exact h
theorem p_dyn {x : Operand} {args : List Operand} {u : Value} {f : FuncId} {vs vs' : List Value} (hx : evL al x = some u) (ha : evsL al args = some vs) (hc : calleeA u vs = some (f, vs')) (h : ACall P f vs' H (EndK (fun v H' => Ops P os K X e ((d, v) :: al) H') X)) : Ops P (A d (.dyn x args) :: os) K X e al H := by
  constructor
  rw [o_some, s_dyn, evs_E ha, ev_E hx]
  refine ⟨f, vs', hc, h.mono ?_⟩
  intro en H' h
  cases en with
  | ret v => show kO P os K X (E e al) d v H'; rw [kO_app, upd_E]; exact h.h
  | panic v => exact h
theorem p_dynS {x : Operand} {args : List Operand} {u : Value} {f : FuncId} {vs vs' : List Value} (hx : evL al x = some u) (ha : evsL al args = some vs) (hc : calleeA u vs = some (f, vs')) (h : ACall P f vs' H (EndK (fun v H' => Ops P os K X e al H') X)) : Ops P (S (.dyn x args) :: os) K X e al H := by
  constructor
  rw [o_none, s_dyn, evs_E ha, ev_E hx]
  refine ⟨f, vs', hc, h.mono ?_⟩
  intro en H' h
  cases en with
  | ret v => show kN P os K X (E e al) v H'; rw [kN_app]; exact h.h
  | panic v => exact h
theorem p_pan {t : TypeId} {u : Value} (hx : evL al x = some (.iface t u)) (hp : plainV (.iface t u) = true) (h : X (.iface t u) H) : Ops P (S (.pan x) :: os) K X e al H := by
  constructor
  rw [o_none, s_pan, ev_E hx]
  exact ⟨hp, ⟨t, u, rfl⟩, h⟩
end
end
end Go.Ab

namespace Go.Ab
open Go

/-! ### What a piece of code writes -/
def wrO : List AOper → List Nat
  | [] => []
  | o :: os => match o.d with | some d => d :: wrO os | none => wrO os
def writes : ACode → List Nat
  | .nil => []
  | .reg ops k => wrO ops ++ writes k
  | .both a b => writes a ++ writes b
  | .cond _ a b k => writes a ++ (writes b ++ writes k)
  | .block _ b k => writes b ++ writes k
  | .loop b => writes b
  | .exit _ => []
  | .ret => []
  | .goto _ => []
  | .label _ k => writes k
  | .scope b k => writes b ++ writes k
def Ag (W : List Nat) (e0 e : Env) : Prop := ∀ i, i ∉ W → e i = e0 i
theorem Ag.upd {W : List Nat} {e0 e : Env} (h : Ag W e0 e) {d : Nat} (hd : d ∈ W) (v : Value) : Ag W e0 (upd e d v) := by
  intro i hi
  have : i ≠ d := by rintro rfl; exact hi hd
  simp [Ab.upd, this, h i hi]
def QAg (W : List Nat) (e0 : Env) (Q : Post) : Post := fun x e H => Q x e H ∧ ((∀ v, x ≠ .panic v) → Ag W e0 e)
theorem AOps.ag {P : Program} {W : List Nat} {e0 : Env} {K : Env → Heap → Prop} {X : Value → Heap → Prop} : ∀ (l : List AOper) (e : Env) (H : Heap), (∀ i ∈ wrO l, i ∈ W) → Ag W e0 e → AOps P l K X e H → AOps P l (fun e H => K e H ∧ Ag W e0 e) X e H
  | [], e, H, _, ha, h => ⟨h, ha⟩
  | o :: l, e, H, hw, ha, h => by
    simp only [AOps] at h ⊢
    have h1 : ∀ i ∈ wrO l, i ∈ W := by
      intro i hi; apply hw; simp only [wrO]; split <;> simp [hi]
    have h2 : ∀ v, Ag W e0 (updO e o.d v) := by
      intro v
      unfold updO
      split
      · rename_i d hd
        exact ha.upd (hw d (by simp [wrO, hd])) v
      · exact ha
    split at h
    · rename_i hg
      rw [if_pos hg]
      exact step_mono (fun _ _ => rfl) h (fun v H' _ h => ⟨h.1, AOps.ag l _ _ h1 (h2 v) h.2⟩) (fun _ _ h => h)
    · rename_i hg
      rw [if_neg hg]
      exact AOps.ag l _ _ h1 (h2 undef) h
theorem AW.ag {P : Program} {W : List Nat} {e0 : Env} : ∀ (c : ACode) (Q : Post) (e : Env) (H : Heap), (∀ i ∈ writes c, i ∈ W) → Ag W e0 e → AW P c Q e H → AW P c (QAg W e0 Q) e H
  | .nil, Q, e, H, hw, ha, h => ⟨h, fun _ => ha⟩
  | .reg ops k, Q, e, H, hw, ha, h => by
    simp only [writes, List.mem_append] at hw
    refine AOps.mono ?_ ?_ ops e H (AOps.ag ops e H (fun i hi => hw i (.inl hi)) ha h)
    · rintro e H ⟨h, ha⟩
      exact AW.ag k Q e H (fun i hi => hw i (.inr hi)) ha h
    · intro v H h e
      exact ⟨h e, fun hx => absurd rfl (hx v)⟩
  | .both a b, Q, e, H, hw, ha, h => by
    simp only [writes, List.mem_append] at hw
    exact ⟨AW.ag a Q e H (fun i hi => hw i (.inl hi)) ha h.1, AW.ag b Q e H (fun i hi => hw i (.inr hi)) ha h.2⟩
  | .cond c a b k, Q, e, H, hw, ha, ⟨t, ht, h⟩ => by
    simp only [writes, List.mem_append] at hw
    refine ⟨t, ht, ?_⟩
    have hk : ∀ x e H, QAg W e0 (thenP (AW P k Q) Q) x e H → thenP (AW P k (QAg W e0 Q)) (QAg W e0 Q) x e H := by
      rintro x e H ⟨h, hx⟩
      cases x with
      | normal => exact AW.ag k Q e H (fun i hi => hw i (.inr (.inr hi))) (hx (by simp)) h
      | panic v => exact ⟨h, fun hx => absurd rfl (hx v)⟩
      | _ => exact ⟨h, fun _ => hx (by simp)⟩
    cases t with
    | true => exact AW.mono a hk e H (AW.ag a _ e H (fun i hi => hw i (.inl hi)) ha h)
    | false => exact AW.mono b hk e H (AW.ag b _ e H (fun i hi => hw i (.inr (.inl hi))) ha h)
  | .block id b k, Q, e, H, hw, ha, h => by
    simp only [writes, List.mem_append] at hw
    refine AW.mono b ?_ e H (AW.ag b _ e H (fun i hi => hw i (.inl hi)) ha h)
    rintro x e H ⟨h, hx⟩
    cases x with
    | normal => exact AW.ag k Q e H (fun i hi => hw i (.inr hi)) (hx (by simp)) h
    | exit i =>
      simp only [blkP] at h ⊢
      split at h
      · rename_i hi; rw [if_pos hi]; exact AW.ag k Q e H (fun i hi => hw i (.inr hi)) (hx (by simp)) h
      · rename_i hi; rw [if_neg hi]; exact ⟨h, fun _ => hx (by simp)⟩
    | panic v => exact ⟨h, fun hx => absurd rfl (hx v)⟩
    | _ => exact ⟨h, fun _ => hx (by simp)⟩
  | .loop b, Q, e, H, hw, ha, ⟨I, ⟨n, h0⟩, h⟩ => by
    refine ⟨fun n e H => I n e H ∧ Ag W e0 e, ⟨n, h0, ha⟩, ?_⟩
    rintro n e H ⟨hI, ha⟩
    refine AW.mono b ?_ e H (AW.ag b _ e H hw ha (h n e H hI))
    rintro x e H ⟨h, hx⟩
    cases x with
    | normal => obtain ⟨m, h1, h2⟩ := h; exact ⟨m, h1, h2, hx (by simp)⟩
    | panic v => exact ⟨h, fun hx => absurd rfl (hx v)⟩
    | _ => exact ⟨h, fun _ => hx (by simp)⟩
  | .exit id, Q, e, H, hw, ha, h => ⟨h, fun _ => ha⟩
  | .ret, Q, e, H, hw, ha, h => ⟨h, fun _ => ha⟩
  | .goto l, Q, e, H, hw, ha, h => ⟨h, fun _ => ha⟩
  | .label _ k, Q, e, H, hw, ha, h => AW.ag k Q e H hw ha h
  | .scope b k, Q, e, H, hw, ha, h => h.elim

/-! ### Entry, results -/
def alOf : Nat → List Value → AL
  | _, [] => []
  | n, v :: l => (n, v) :: alOf (n + 1) l
theorem alOf_lk : ∀ (l : List Value) (n i : Nat), lk (alOf n l) i = if i < n then none else l[i - n]?
  | [], n, i => by simp [alOf, lk]
  | v :: l, n, i => by
    simp only [alOf, lk]
    by_cases h : i = n
    · subst h; simp
    · rw [beq_ne h, cond_false, alOf_lk l (n + 1) i]
      by_cases h2 : i < n
      · rw [if_pos (by omega), if_pos h2]
      · rw [if_neg (by omega), if_neg h2]
        have : i - n = (i - (n + 1)) + 1 := by omega
        rw [this]; simp
theorem env_alOf (l : List Value) : envOf l = E (fun _ => undef) (alOf 0 l) := by
  funext i
  simp only [E, alOf_lk, envOf, Nat.not_lt_zero, if_false, Nat.sub_zero, List.getD_eq_getElem?_getD]
  cases l[i]? <;> rfl
theorem wk_entry {P : Program} {c : ACode} {Q : Post} {args : List Value} {al : AL} {H : Heap} (ha : alOf 0 args = al) (h : ∀ e, Wk P c Q e al H) : AW P c Q (envOf args) H := by
  rw [env_alOf, ha]; exact (h _).h
theorem r_end {N X : Value → Heap → Prop} {v : Value} {H : Heap} (h : N v H) : EndK N X (.ret v) H := h
theorem r_pan {N X : Value → Heap → Prop} {v : Value} {H : Heap} (h : X v H) : EndK N X (.panic v) H := h
/-! ### Loops -/
def valsL (al : AL) : List Nat → Option (List Value)
  | [] => some []
  | k :: r => match valsL al r with
    | none => none
    | some l => match lk al k with
      | none => none
      | some v => some (v :: l)
def zipL : List Nat → List Value → AL → AL
  | k :: ks, v :: vs, al => (k, v) :: zipL ks vs al
  | _, _, al => al
/-- Behind a round. -/
def LpN (ks : List Nat) (J : List Value → Heap → Nat → Prop) (n : Nat) : Env → Heap → Prop := fun e H => ∃ m, m < n ∧ J (ks.map e) H m
theorem vals_E {e : Env} {al : AL} : ∀ {ks : List Nat} {vs : List Value}, valsL al ks = some vs → ks.map (E e al) = vs
  | [], vs, h => by simp only [valsL, Option.some.injEq] at h; subst h; rfl
  | k :: r, vs, h => by
    simp only [valsL] at h
    split at h
    · simp at h
    · rename_i l h1
      split at h
      · simp at h
      · rename_i v h2
        simp only [Option.some.injEq] at h; subst h
        simp only [List.map_cons, E_lk h2, vals_E h1]
theorem E_zip {e : Env} {al : AL} : ∀ (ks : List Nat) (h : E e al = e), E e (zipL ks (ks.map e) al) = e
  | [], h => h
  | k :: ks, h => by
    show E e ((k, e k) :: zipL ks (ks.map e) al) = e
    rw [← upd_E, E_zip ks h]
    funext i; unfold upd; split
    · rename_i h; rw [h]
    · rfl
theorem E_keep {e e0 : Env} {al0 al : AL} {W : List Nat} (ha : Ag W (E e0 al0) e) : ∀ {ks : List Nat}, (∀ k ∈ ks, k ∉ W) → keepL al0 ks = some al → E e al = e
  | [], _, h => by simp only [keepL, Option.some.injEq] at h; subst h; rfl
  | k :: ks, hk, h => by
    simp only [keepL] at h
    split at h
    · simp at h
    · rename_i l h1
      split at h
      · simp at h
      · rename_i v h2
        simp only [Option.some.injEq] at h; subst h
        rw [← upd_E, E_keep ha (fun k hk' => hk k (List.mem_cons_of_mem _ hk')) h1]
        have : e k = v := by rw [ha k (hk k List.mem_cons_self), E_lk h2]
        funext i; unfold upd; split
        · rename_i h; rw [h, this]
        · rfl
theorem lpL {P : Program} {b : ACode} {Q : Post} {e : Env} {al al' : AL} {H : Heap} (ks keep : List Nat) (J : List Value → Heap → Nat → Prop) {vs : List Value} (hv : valsL al ks = some vs) (hk : keepL al keep = some al')
    (hw : (keep.all fun k => !(writes b).contains k) = true) (n : Nat) (h0 : J vs H n) (h : ∀ vs H n e', J vs H n → vs.length = ks.length → Wk P b (thenP (LpN ks J n) Q) e' (zipL ks vs al') H) : Wk P (.loop b) Q e al H := by
  constructor
  refine AW.loop (fun n e' H => J (ks.map e') H n ∧ Ag (writes b) (E e al) e') n ⟨by rw [vals_E hv]; exact h0, fun _ _ => rfl⟩ ?_
  rintro n e' H ⟨hJ, ha⟩
  have h1 := (h _ H n e' hJ (by simp)).h
  have hkeep : ∀ k ∈ keep, k ∉ writes b := by
    intro k hk
    have := List.all_eq_true.1 hw k hk
    simpa using this
  rw [E_zip ks (E_keep ha hkeep hk)] at h1
  refine AW.mono b ?_ e' H (AW.ag b _ e' H (fun _ h => h) ha h1)
  rintro x e2 H2 ⟨h2, hx⟩
  cases x with
  | normal => obtain ⟨m, h3, h4⟩ := h2; exact ⟨m, h3, h4, hx (by simp)⟩
  | _ => exact h2
def J0 (J : Heap → Nat → Prop) : List Value → Heap → Nat → Prop := fun vs H n => match vs with | [] => J H n | _ => False
def J1 (J : Value → Heap → Nat → Prop) : List Value → Heap → Nat → Prop := fun vs H n => match vs with | [a] => J a H n | _ => False
def J2 (J : Value → Value → Heap → Nat → Prop) : List Value → Heap → Nat → Prop := fun vs H n => match vs with | [a, b] => J a b H n | _ => False
def J3 (J : Value → Value → Value → Heap → Nat → Prop) : List Value → Heap → Nat → Prop := fun vs H n => match vs with | [a, b, c] => J a b c H n | _ => False
def J4 (J : Value → Value → Value → Value → Heap → Nat → Prop) : List Value → Heap → Nat → Prop := fun vs H n => match vs with | [a, b, c, d] => J a b c d H n | _ => False
def J5 (J : Value → Value → Value → Value → Value → Heap → Nat → Prop) : List Value → Heap → Nat → Prop := fun vs H n => match vs with | [a, b, c, d, f] => J a b c d f H n | _ => False
def J6 (J : Value → Value → Value → Value → Value → Value → Heap → Nat → Prop) : List Value → Heap → Nat → Prop := fun vs H n => match vs with | [a, b, c, d, f, g] => J a b c d f g H n | _ => False
section
variable {P : Program} {b : ACode} {Q : Post} {e : Env} {al al' : AL} {H : Heap}
theorem lp0 (keep : List Nat) (J : Heap → Nat → Prop) (hk : keepL al keep = some al')
    (hw : (keep.all fun k => !(writes b).contains k) = true) (n : Nat) (h0 : J H n) (h : ∀ H n e', J H n → Wk P b (thenP (LpN [] (J0 J) n) Q) e' al' H) : Wk P (.loop b) Q e al H :=
  lpL [] keep (J0 J) rfl hk hw n h0 (fun vs H n e' hJ hl => by
    match vs, hl, hJ with
    | [], _, hJ => exact h H n e' hJ)
theorem lp1 (k1 : Nat) (keep : List Nat) (J : Value → Heap → Nat → Prop) {v1 : Value} (h1 : lk al k1 = some v1) (hk : keepL al keep = some al')
    (hw : (keep.all fun k => !(writes b).contains k) = true) (n : Nat) (h0 : J v1 H n) (h : ∀ v1 H n e', J v1 H n → Wk P b (thenP (LpN [k1] (J1 J) n) Q) e' ((k1, v1) :: al') H) : Wk P (.loop b) Q e al H :=
  lpL (vs := [v1]) [k1] keep (J1 J) (by simp only [valsL, h1]) hk hw n h0 (fun vs H n e' hJ hl => by
    match vs, hl, hJ with
    | [a], _, hJ => exact h a H n e' hJ)
theorem lp2 (k1 k2 : Nat) (keep : List Nat) (J : Value → Value → Heap → Nat → Prop) {v1 v2 : Value} (h1 : lk al k1 = some v1) (h2 : lk al k2 = some v2) (hk : keepL al keep = some al')
    (hw : (keep.all fun k => !(writes b).contains k) = true) (n : Nat) (h0 : J v1 v2 H n) (h : ∀ v1 v2 H n e', J v1 v2 H n → Wk P b (thenP (LpN [k1, k2] (J2 J) n) Q) e' ((k1, v1) :: (k2, v2) :: al') H) : Wk P (.loop b) Q e al H :=
  lpL (vs := [v1, v2]) [k1, k2] keep (J2 J) (by simp only [valsL, h1, h2]) hk hw n h0 (fun vs H n e' hJ hl => by
    match vs, hl, hJ with
    | [a, b], _, hJ => exact h a b H n e' hJ)
theorem lp3 (k1 k2 k3 : Nat) (keep : List Nat) (J : Value → Value → Value → Heap → Nat → Prop) {v1 v2 v3 : Value} (h1 : lk al k1 = some v1) (h2 : lk al k2 = some v2) (h3 : lk al k3 = some v3) (hk : keepL al keep = some al')
    (hw : (keep.all fun k => !(writes b).contains k) = true) (n : Nat) (h0 : J v1 v2 v3 H n) (h : ∀ v1 v2 v3 H n e', J v1 v2 v3 H n → Wk P b (thenP (LpN [k1, k2, k3] (J3 J) n) Q) e' ((k1, v1) :: (k2, v2) :: (k3, v3) :: al') H) : Wk P (.loop b) Q e al H :=
  lpL (vs := [v1, v2, v3]) [k1, k2, k3] keep (J3 J) (by simp only [valsL, h1, h2, h3]) hk hw n h0 (fun vs H n e' hJ hl => by
    match vs, hl, hJ with
    | [a, b, c], _, hJ => exact h a b c H n e' hJ)
theorem lp4 (k1 k2 k3 k4 : Nat) (keep : List Nat) (J : Value → Value → Value → Value → Heap → Nat → Prop) {v1 v2 v3 v4 : Value} (h1 : lk al k1 = some v1) (h2 : lk al k2 = some v2) (h3 : lk al k3 = some v3) (h4 : lk al k4 = some v4) (hk : keepL al keep = some al')
    (hw : (keep.all fun k => !(writes b).contains k) = true) (n : Nat) (h0 : J v1 v2 v3 v4 H n) (h : ∀ v1 v2 v3 v4 H n e', J v1 v2 v3 v4 H n → Wk P b (thenP (LpN [k1, k2, k3, k4] (J4 J) n) Q) e' ((k1, v1) :: (k2, v2) :: (k3, v3) :: (k4, v4) :: al') H) : Wk P (.loop b) Q e al H :=
  lpL (vs := [v1, v2, v3, v4]) [k1, k2, k3, k4] keep (J4 J) (by simp only [valsL, h1, h2, h3, h4]) hk hw n h0 (fun vs H n e' hJ hl => by
    match vs, hl, hJ with
    | [a, b, c, d], _, hJ => exact h a b c d H n e' hJ)
theorem lp5 (k1 k2 k3 k4 k5 : Nat) (keep : List Nat) (J : Value → Value → Value → Value → Value → Heap → Nat → Prop) {v1 v2 v3 v4 v5 : Value} (h1 : lk al k1 = some v1) (h2 : lk al k2 = some v2) (h3 : lk al k3 = some v3) (h4 : lk al k4 = some v4) (h5 : lk al k5 = some v5) (hk : keepL al keep = some al')
    (hw : (keep.all fun k => !(writes b).contains k) = true) (n : Nat) (h0 : J v1 v2 v3 v4 v5 H n) (h : ∀ v1 v2 v3 v4 v5 H n e', J v1 v2 v3 v4 v5 H n → Wk P b (thenP (LpN [k1, k2, k3, k4, k5] (J5 J) n) Q) e' ((k1, v1) :: (k2, v2) :: (k3, v3) :: (k4, v4) :: (k5, v5) :: al') H) : Wk P (.loop b) Q e al H :=
  lpL (vs := [v1, v2, v3, v4, v5]) [k1, k2, k3, k4, k5] keep (J5 J) (by simp only [valsL, h1, h2, h3, h4, h5]) hk hw n h0 (fun vs H n e' hJ hl => by
    match vs, hl, hJ with
    | [a, b, c, d, f], _, hJ => exact h a b c d f H n e' hJ)
theorem lp6 (k1 k2 k3 k4 k5 k6 : Nat) (keep : List Nat) (J : Value → Value → Value → Value → Value → Value → Heap → Nat → Prop) {v1 v2 v3 v4 v5 v6 : Value} (h1 : lk al k1 = some v1) (h2 : lk al k2 = some v2) (h3 : lk al k3 = some v3) (h4 : lk al k4 = some v4) (h5 : lk al k5 = some v5) (h6 : lk al k6 = some v6) (hk : keepL al keep = some al')
    (hw : (keep.all fun k => !(writes b).contains k) = true) (n : Nat) (h0 : J v1 v2 v3 v4 v5 v6 H n) (h : ∀ v1 v2 v3 v4 v5 v6 H n e', J v1 v2 v3 v4 v5 v6 H n → Wk P b (thenP (LpN [k1, k2, k3, k4, k5, k6] (J6 J) n) Q) e' ((k1, v1) :: (k2, v2) :: (k3, v3) :: (k4, v4) :: (k5, v5) :: (k6, v6) :: al') H) : Wk P (.loop b) Q e al H :=
  lpL (vs := [v1, v2, v3, v4, v5, v6]) [k1, k2, k3, k4, k5, k6] keep (J6 J) (by simp only [valsL, h1, h2, h3, h4, h5, h6]) hk hw n h0 (fun vs H n e' hJ hl => by
    match vs, hl, hJ with
    | [a, b, c, d, f, g], _, hJ => exact h a b c d f g H n e' hJ)
/-- The end of a round. -/
theorem lpE {ks : List Nat} {J : List Value → Heap → Nat → Prop} {n : Nat} {vs : List Value} (hv : valsL al ks = some vs) (h : ∃ m, m < n ∧ J vs H m) : Cn (LpN ks J n) e al H := by
  constructor
  obtain ⟨m, h1, h2⟩ := h
  exact ⟨m, h1, by rw [vals_E hv]; exact h2⟩
end
end Go.Ab

namespace Go.Ab
open Go

/-! ### Elements of so many cells -/
structure Enc (α : Type) where
  enc : α → List Value
  size : Nat
  ok : ∀ x, (enc x).length = size
  pos : 0 < size
abbrev Enc.all {α : Type} (T : Enc α) (xs : List α) : List Value := xs.flatMap T.enc
section
variable {α : Type} (T : Enc α)
theorem Enc.all_length (xs : List α) : (T.all xs).length = xs.length * T.size := by
  induction xs with
  | nil => simp
  | cons x xs ih => simp only [List.flatMap_cons, List.length_append, T.ok, ih, List.length_cons]; rw [Nat.add_mul]; omega
theorem Enc.all_drop (xs : List α) (i : Nat) : (T.all xs).drop (i * T.size) = T.all (xs.drop i) := by
  induction i generalizing xs with
  | zero => simp
  | succ i ih =>
    cases xs with
    | nil => simp
    | cons x xs =>
      rw [List.drop_succ_cons, ← ih, Enc.all, List.flatMap_cons, Nat.add_mul, Nat.one_mul, Nat.add_comm, ← List.drop_drop]
      congr 1
      rw [List.drop_append_of_le_length (by rw [T.ok]; exact Nat.le_refl _)]
      rw [List.drop_eq_nil_of_le (by rw [T.ok]; exact Nat.le_refl _)]; simp
theorem Enc.all_take (xs : List α) (i : Nat) : (T.all xs).take (i * T.size) = T.all (xs.take i) := by
  induction i generalizing xs with
  | zero => simp
  | succ i ih =>
    cases xs with
    | nil => simp
    | cons x xs =>
      have h2 := ih xs
      rw [List.take_succ_cons, Enc.all, List.flatMap_cons, Enc.all, List.flatMap_cons, Nat.add_mul, Nat.one_mul, Nat.add_comm, List.take_add]
      rw [List.take_append_of_le_length (by rw [T.ok]; exact Nat.le_refl _), List.take_of_length_le (by rw [T.ok]; exact Nat.le_refl _)]
      rw [List.drop_append_of_le_length (by rw [T.ok]; exact Nat.le_refl _), List.drop_eq_nil_of_le (by rw [T.ok]; exact Nat.le_refl _), List.nil_append, h2]
theorem Enc.all_get {xs : List α} {i : Nat} {x : α} (h : xs[i]? = some x) : ((T.all xs).drop (i * T.size)).take T.size = T.enc x := by
  rw [T.all_drop]
  have : xs.drop i = x :: xs.drop (i + 1) := by
    obtain ⟨h1, h2⟩ := List.getElem?_eq_some_iff.1 h
    rw [← h2]; exact List.drop_eq_getElem_cons h1
  rw [this, Enc.all, List.flatMap_cons, List.take_append_of_le_length (by rw [T.ok]; exact Nat.le_refl _), List.take_of_length_le (by rw [T.ok]; exact Nat.le_refl _)]
theorem Enc.all_set {xs : List α} {i : Nat} (h : i < xs.length) (x : α) : putCells (T.all xs) (i * T.size) (T.enc x) = T.all (xs.set i x) := by
  unfold putCells
  rw [T.all_take, T.ok]
  have e1 : i * T.size + T.size = (i + 1) * T.size := by rw [Nat.add_mul, Nat.one_mul]
  rw [e1, T.all_drop, List.set_eq_take_append_cons_drop, if_pos h]
  simp [Enc.all]
end
@[reducible] def intE : Enc Int := ⟨fun n => [.int .i64 n], 1, fun _ => rfl, by decide⟩
@[reducible] def boolE : Enc Bool := ⟨fun n => [.bool n], 1, fun _ => rfl, by decide⟩
@[reducible] def strE : Enc ByteArray := ⟨fun n => [.string n], 1, fun _ => rfl, by decide⟩
@[reducible] def valE : Enc Value := ⟨fun n => [n], 1, fun _ => rfl, by decide⟩

/-! ### Slices that are read -/
def blkOf : Value → Nat | .slice (some a) _ _ => a.block | _ => 0
def offOf : Value → Nat | .slice (some a) _ _ => a.off | _ => 0
/-- Where an element's cell stands. -/
abbrev ptA (v : Value) (size : Nat) (i : Int) : Value := .pointer (some ⟨blkOf v, offOf v + i.toNat * size, none⟩)
abbrev ptO (v : Value) (size : Nat) (i : Int) (off : Nat) : Value := .pointer (some ⟨blkOf v, offOf v + i.toNat * size + off, none⟩)
def gI {α : Type} [Inhabited α] (xs : List α) (i : Int) : α := xs.getD i.toNat default
theorem gI_some {α : Type} [Inhabited α] {xs : List α} {i : Int} (h0 : 0 ≤ i) (h1 : i < xs.length) : xs[i.toNat]? = some (gI xs i) := by
  have : i.toNat < xs.length := by omega
  rw [List.getElem?_eq_getElem this, gI, List.getD_eq_getElem?_getD, List.getElem?_eq_getElem this]; rfl

inductive IsS {α : Type} (T : Enc α) (H : Heap) : Value → List α → Prop where
  | isNil : IsS T H (.slice none 0 0) []
  | isEmpty (b o c : Nat) (h6 : c % 64 = T.size) : IsS T H (.slice (some ⟨b, o, none⟩) 0 c) []
  | isSome (b o c n : Nat) (k : Blk) (xs : List α) (hn : n = xs.length) (h6 : c % 64 = T.size) (hb : b < H.next) (hk : H.get b = some k) (hc : (k.cells.drop o).take (xs.length * T.size) = T.all xs) : IsS T H (.slice (some ⟨b, o, none⟩) n c) xs
section
variable {α : Type} {T : Enc α} {H H' : Heap} {v : Value} {xs : List α}
theorem IsS.fr (h : IsS T H v xs) (r : Fr H H') : IsS T H' v xs := by
  cases h with
  | isNil => exact .isNil
  | isEmpty b o c h6 => exact .isEmpty b o c h6
  | isSome b o c n k xs hn h6 hb hk hc => exact .isSome b o c n k xs hn h6 (Nat.lt_of_lt_of_le hb r.next) (by rw [r.get b hb]; exact hk) hc
theorem IsS.len (h : IsS T H v xs) : lenA v = some (.int .i64 xs.length) := by
  cases h with
  | isNil => rfl
  | isEmpty => rfl
  | isSome b o c n k xs hn => subst hn; rfl
theorem IsS.ia (h : IsS T H v xs) {k : IntKind} {i : Int} {size : Nat} (h0 : 0 ≤ i) (h1 : i < xs.length) : iaS size v (.int k i) = some (ptA v size i) := by
  cases h with
  | isNil => simp at h1; omega
  | isEmpty b o c h6 => simp at h1; omega
  | isSome b o c n k xs hn h6 hb hk hc => subst hn; simp [iaS, blkOf, offOf, h0, h1]
theorem IsS.rd (h : IsS T H v xs) {i : Nat} {x : α} (hx : xs[i]? = some x) : rdH H (blkOf v) (offOf v + i * T.size) T.size = some (T.enc x) := by
  cases h with
  | isNil => simp at hx
  | isEmpty b o c h6 => simp at hx
  | isSome b o c n k xs hn h6 hb hk hc =>
    have hi : i < xs.length := (List.getElem?_eq_some_iff.1 hx).1
    have hl : xs.length * T.size ≤ (k.cells.drop o).length := by
      have := congrArg List.length hc
      rw [List.length_take, T.all_length] at this; omega
    have hle : (i + 1) * T.size ≤ xs.length * T.size := Nat.mul_le_mul_right _ hi
    rw [Nat.add_mul, Nat.one_mul] at hle
    rw [List.length_drop] at hl
    have hpos := T.pos
    show rdH H b (o + i * T.size) T.size = _
    simp only [rdH, hk, Option.bind_some]
    rw [if_pos (by omega)]
    have h2 := T.all_get hx
    rw [← hc, List.drop_take, List.take_take, List.drop_drop] at h2
    rw [← h2]
    congr 2
    omega
theorem rdH_get {b o n : Nat} {cs : List Value} (h : rdH H b o n = some cs) {j : Nat} {u : Value} (hu : cs[j]? = some u) : (H.get b).bind (fun k => k.cells[o + j]?) = some u := by
  unfold rdH at h
  cases hk : H.get b with
  | none => simp [hk] at h
  | some k =>
    simp only [hk, Option.bind_some] at h ⊢
    split at h
    · simp only [Option.some.injEq] at h
      subst h
      rw [List.getElem?_take] at hu
      split at hu
      · rwa [List.getElem?_drop] at hu
      · simp at hu
    · simp at h
theorem IsS.ldO [Inhabited α] (h : IsS T H v xs) {i : Int} (h0 : 0 ≤ i) (h1 : i < xs.length) {off size : Nat} {u : Value} (hs : T.size = size) (hu : (T.enc (gI xs i))[off]? = some u) : ldA none H (ptO v size i off) = some u := by
  subst hs
  exact rdH_get (h.rd (gI_some h0 h1)) hu
theorem IsS.ldA [Inhabited α] (h : IsS T H v xs) {i : Int} (h0 : 0 ≤ i) (h1 : i < xs.length) {size : Nat} {u : Value} (hs : T.size = size) (hu : (T.enc (gI xs i))[0]? = some u) : ldA none H (ptA v size i) = some u := by
  subst hs
  exact rdH_get (h.rd (gI_some h0 h1)) hu
theorem IsS.ldW [Inhabited α] (h : IsS T H v xs) {i : Int} (h0 : 0 ≤ i) (h1 : i < xs.length) {size : Nat} (hs : T.size = size) : Ab.ldA (some size) H (ptA v size i) = some (.agg (T.enc (gI xs i)).toArray) := by
  subst hs
  show (rdH H (blkOf v) _ _).map _ = _
  rw [h.rd (gI_some h0 h1)]; rfl
theorem IsS.slc (h : IsS T H v xs) : slcA T.size H v = some (xs.length, T.all xs) := by
  cases h with
  | isNil => rfl
  | isEmpty b o c h6 => rfl
  | isSome b o c n k xs hn h6 hb hk hc =>
    subst hn
    unfold slcA
    simp only
    split
    · rename_i h0
      have : xs = [] := List.length_eq_zero_iff.1 h0
      subst this; rfl
    · rename_i h0
      have hl : xs.length * T.size ≤ (k.cells.drop o).length := by
        have := congrArg List.length hc
        rw [List.length_take, T.all_length] at this; omega
      have : 0 < xs.length * T.size := Nat.mul_pos (by omega) T.pos
      rw [List.length_drop] at hl
      simp only [rdH, hk, Option.bind_some]
      rw [if_pos (by omega), hc]; rfl
/-- A slice of a slice that is read. -/
theorem IsS.sl (h : IsS T H v xs) {k1 k2 : IntKind} {lo hi : Int} (h0 : 0 ≤ lo) (h1 : lo ≤ hi) (h2 : hi ≤ xs.length) : ∃ v', slA T.size v (some (.int k1 lo)) (some (.int k2 hi)) none = some v' ∧ ∀ H', IsS T H' v xs → IsS T H' v' ((xs.drop lo.toNat).take (hi.toNat - lo.toNat)) := by
  have g : ∀ (b o c : Nat), c % 64 = T.size → v = .slice (some ⟨b, o, none⟩) xs.length c → ∃ v', slA T.size v (some (.int k1 lo)) (some (.int k2 hi)) none = some v' ∧ ∀ H', IsS T H' v xs → IsS T H' v' ((xs.drop lo.toNat).take (hi.toNat - lo.toNat)) := by
    rintro b o c h6 rfl
    have e1 : optI (some (.int k1 lo)) 0 = some lo.toNat := by simp [optI, h0]
    have e2 : optI (some (.int k2 hi)) xs.length = some hi.toNat := by simp [optI, Int.le_trans h0 h1]
    have h3 : c % 64 = T.size ∧ lo.toNat ≤ hi.toNat ∧ hi.toNat ≤ xs.length := ⟨h6, by omega, by omega⟩
    refine ⟨_, by simp only [slA, e1, e2]; rw [if_pos h3], fun H' hi' => ?_⟩
    have h64 : (if c / 64 = 0 then T.size else (c / 64 - 2 * lo.toNat) * 64 + T.size) % 64 = T.size := by
      have : T.size < 64 := by rw [← h6]; exact Nat.mod_lt _ (by decide)
      split <;> omega
    generalize hd : (if c / 64 = 0 then T.size else (c / 64 - 2 * lo.toNat) * 64 + T.size) = c' at h64 ⊢
    have hl : ((xs.drop lo.toNat).take (hi.toNat - lo.toNat)).length = hi.toNat - lo.toNat := by simp; omega
    generalize hn : xs.length = n at hi'
    cases hi' with
    | isEmpty => have : hi.toNat - lo.toNat = 0 := by simp at h2; omega
                 rw [this]; simp; exact .isEmpty _ _ _ h64
    | isSome _ _ _ _ k xs hn' h6' hb hk hc =>
      refine .isSome _ _ _ _ k _ hl.symm h64 hb hk ?_
      rw [hl, ← T.all_take, ← T.all_drop, ← hc, List.drop_take, List.take_take, List.drop_drop]
      congr 1
      have : hi.toNat * T.size ≤ xs.length * T.size := Nat.mul_le_mul_right _ (by omega)
      rw [Nat.sub_mul, Nat.min_eq_left]
      omega
  cases h with
  | isNil =>
    have : lo = 0 := by simp at h2; omega
    have : hi = 0 := by simp at h2; omega
    subst this; subst lo
    exact ⟨_, rfl, fun H' _ => .isNil⟩
  | isEmpty b o c h6 => exact g b o c h6 rfl
  | isSome b o c n k xs hn h6 hb hk hc => subst hn; exact g b o c h6 rfl
end

/-! ### What is one's own -/
inductive Res where
  | blk (b : Nat) (cs : List Value)
  | sl (size : Nat) (v : Value) (cs : List Value)
def Res.holds (H : Heap) : Res → Prop
  | .blk b cs => ∃ k, H.get b = some k ∧ k.own = true ∧ k.cells = cs
  | .sl size v cs => (v = .slice none 0 0 ∧ cs = []) ∨ ∃ b o n c k, v = .slice (some ⟨b, o, none⟩) n c ∧ H.get b = some k ∧ k.own = true ∧ cs.length = n * size ∧ (k.cells.drop o).take (n * size) = cs ∧ o + n * size ≤ k.cells.length ∧ c % 64 = size
def Res.id : Res → Option Nat
  | .blk b _ => some b
  | .sl _ v _ => match v with | .slice (some a) _ _ => some a.block | _ => none
def ParOk (H0 H : Heap) (L : List Res) (b : Nat) : Prop := H0.next ≤ b ∧ b < H.next ∧ ∀ k, H.get b = some k → ∀ q, k.par = some q → H0.next ≤ q ∧ q < H.next ∧ ∀ r ∈ L, r.id ≠ some q
structure Hp (H0 H : Heap) (L : List Res) : Prop where
  fr : Fr H0 H
  res : ∀ r ∈ L, r.holds H ∧ ∀ b, r.id = some b → ParOk H0 H L b
  dist : L.Pairwise (fun r r' => ∀ b, r.id = some b → r'.id ≠ some b)
inductive Foc : List Res → Res → (Res → List Res) → Prop where
  | head {r : Res} {L : List Res} : Foc (r :: L) r (fun x => x :: L)
  | tail {r y : Res} {L : List Res} {F : Res → List Res} : Foc L r F → Foc (y :: L) r (fun x => y :: F x)

theorem Foc.split {L : List Res} {r : Res} {F : Res → List Res} (h : Foc L r F) : ∃ L1 L2, L = L1 ++ r :: L2 ∧ ∀ x, F x = L1 ++ x :: L2 := by
  induction h with
  | head => exact ⟨[], _, rfl, fun _ => rfl⟩
  | @tail r y L F h ih =>
    obtain ⟨L1, L2, e, f⟩ := ih
    exact ⟨y :: L1, L2, by rw [e]; rfl, fun x => by show y :: F x = _; rw [f x]; rfl⟩
theorem Foc.mem {L : List Res} {r : Res} {F : Res → List Res} (h : Foc L r F) : r ∈ L := by
  obtain ⟨L1, L2, rfl, _⟩ := h.split; simp
section
variable {H0 H H' : Heap} {L : List Res} {r r' : Res} {F : Res → List Res}
theorem Hp.refl (H : Heap) : Hp H H [] := ⟨Fr.refl H, fun r h => by simp at h, List.Pairwise.nil⟩
theorem Hp.nil (h : Hp H0 H L) (size : Nat) : Hp H0 H (.sl size (.slice none 0 0) [] :: L) := by
  refine ⟨h.fr, fun r hr => ?_, List.Pairwise.cons (fun r _ b hb => by simp [Res.id] at hb) h.dist⟩
  rcases List.mem_cons.1 hr with rfl | hr
  · exact ⟨.inl ⟨rfl, rfl⟩, fun b hb => by simp [Res.id] at hb⟩
  · obtain ⟨h1, h2⟩ := h.res r hr
    refine ⟨h1, fun b hb => ?_⟩
    obtain ⟨a1, a2, a3⟩ := h2 b hb
    refine ⟨a1, a2, fun k hk q hq => ?_⟩
    obtain ⟨b1, b2, b3⟩ := a3 k hk q hq
    refine ⟨b1, b2, fun r2 hr2 => ?_⟩
    rcases List.mem_cons.1 hr2 with rfl | hr2
    · simp [Res.id]
    · exact b3 r2 hr2
theorem Hp.sub (h : Hp H0 H L) {L' : List Res} (hs : List.Sublist L' L) : Hp H0 H L' := by
  refine ⟨h.fr, fun r hr => ?_, h.dist.sublist hs⟩
  obtain ⟨h1, h2⟩ := h.res r (hs.subset hr)
  refine ⟨h1, fun b hb => ?_⟩
  obtain ⟨a1, a2, a3⟩ := h2 b hb
  refine ⟨a1, a2, fun k hk q hq => ?_⟩
  obtain ⟨b1, b2, b3⟩ := a3 k hk q hq
  exact ⟨b1, b2, fun r2 hr2 => b3 r2 (hs.subset hr2)⟩
theorem Hp.drop (h : Hp H0 H (r :: L)) : Hp H0 H L := h.sub (List.sublist_cons_self _ _)
theorem Hp.zero (h : Hp H0 H L) : Hp H0 H [] := h.sub (List.nil_sublist _)
theorem Hp.perm (h : Hp H0 H L) {L' : List Res} (hs : List.Perm L' L) : Hp H0 H L' := by
  refine ⟨h.fr, fun r hr => ?_, ?_⟩
  · obtain ⟨h1, h2⟩ := h.res r (hs.subset hr)
    refine ⟨h1, fun b hb => ?_⟩
    obtain ⟨a1, a2, a3⟩ := h2 b hb
    refine ⟨a1, a2, fun k hk q hq => ?_⟩
    obtain ⟨b1, b2, b3⟩ := a3 k hk q hq
    exact ⟨b1, b2, fun r2 hr2 => b3 r2 (hs.subset hr2)⟩
  · refine (hs.pairwise_iff ?_).2 h.dist
    intro a b hab c hb ha
    exact hab c ha hb
theorem Res.holds_eq (h : r.holds H) (hg : ∀ b, r.id = some b → H'.get b = H.get b) : r.holds H' := by
  cases r with
  | blk b cs => obtain ⟨k, h1, h2⟩ := h; exact ⟨k, by rw [hg b rfl]; exact h1, h2⟩
  | sl size v cs =>
    rcases h with h | ⟨b, o, n, c, k, rfl, h1, h2⟩
    · exact .inl h
    · exact .inr ⟨b, o, n, c, k, rfl, by rw [hg b rfl]; exact h1, h2⟩
/-- A function's own memory, behind it. -/
theorem Hp.trans {L' : List Res} (h : Hp H0 H L) (h' : Hp H H' L') : Hp H0 H' (L' ++ L) := by
  have hlt : ∀ r ∈ L, ∀ b, r.id = some b → b < H.next := fun r hr b hb => ((h.res r hr).2 b hb).2.1
  refine ⟨h.fr.trans h'.fr, fun r hr => ?_, List.pairwise_append.2 ⟨h'.dist, h.dist, fun r hr r2 hr2 b hb hb2 => ?_⟩⟩
  · rcases List.mem_append.1 hr with hr | hr
    · obtain ⟨h1, h2⟩ := h'.res r hr
      refine ⟨h1, fun b hb => ?_⟩
      obtain ⟨a1, a2, a3⟩ := h2 b hb
      refine ⟨Nat.le_trans h.fr.next a1, a2, fun k hk q hq => ?_⟩
      obtain ⟨b1, b2, b3⟩ := a3 k hk q hq
      refine ⟨Nat.le_trans h.fr.next b1, b2, fun r2 hr2 => ?_⟩
      rcases List.mem_append.1 hr2 with hr2 | hr2
      · exact b3 r2 hr2
      · intro e; have := hlt r2 hr2 q e; omega
    · obtain ⟨h1, h2⟩ := h.res r hr
      refine ⟨Res.holds_eq h1 (fun b hb => h'.fr.get b (hlt r hr b hb)), fun b hb => ?_⟩
      obtain ⟨a1, a2, a3⟩ := h2 b hb
      refine ⟨a1, Nat.lt_of_lt_of_le a2 h'.fr.next, fun k hk q hq => ?_⟩
      rw [h'.fr.get b a2] at hk
      obtain ⟨b1, b2, b3⟩ := a3 k hk q hq
      refine ⟨b1, Nat.lt_of_lt_of_le b2 h'.fr.next, fun r2 hr2 => ?_⟩
      rcases List.mem_append.1 hr2 with hr2 | hr2
      · intro e; have := ((h'.res r2 hr2).2 q e).1; omega
      · exact b3 r2 hr2
  · have := hlt r2 hr2 b hb2
    have := ((h'.res r hr).2 b hb).1
    omega
/-- A new block. -/
theorem Hp.push (h : Hp H0 H L) {cs : List Value} {r : Res} (hr : r.id = some H.next ∨ r.id = none) (hh : r.holds (H.push ⟨cs, true, Option.none⟩)) : Hp H0 (H.push ⟨cs, true, Option.none⟩) (r :: L) := by
  have hlt : ∀ r ∈ L, ∀ b, r.id = some b → b < H.next := fun r hr b hb => ((h.res r hr).2 b hb).2.1
  refine ⟨h.fr.push _, fun r2 hr2 => ?_, List.Pairwise.cons (fun r2 hr2 b hb hb2 => ?_) h.dist⟩
  · rcases List.mem_cons.1 hr2 with rfl | hr2
    · refine ⟨hh, fun b hb => ?_⟩
      rcases hr with hr | hr
      · rw [hr] at hb; obtain rfl := Option.some.inj hb
        refine ⟨h.fr.next, Nat.lt_succ_self _, fun k hk q hq => ?_⟩
        simp only [push_get, if_true, Option.some.injEq] at hk
        subst hk; cases hq
      · rw [hr] at hb; cases hb
    · obtain ⟨h1, h2⟩ := h.res r2 hr2
      refine ⟨Res.holds_eq h1 (fun b hb => by have := hlt r2 hr2 b hb; simp only [push_get]; rw [if_neg (by omega)]), fun b hb => ?_⟩
      obtain ⟨a1, a2, a3⟩ := h2 b hb
      refine ⟨a1, Nat.lt_succ_of_lt a2, fun k hk q hq => ?_⟩
      simp only [push_get] at hk; rw [if_neg (by omega)] at hk
      obtain ⟨b1, b2, b3⟩ := a3 k hk q hq
      refine ⟨b1, Nat.lt_succ_of_lt b2, fun r3 hr3 => ?_⟩
      rcases List.mem_cons.1 hr3 with rfl | hr3
      · rcases hr with hr | hr
        · rw [hr]; intro e; cases e; omega
        · rw [hr]; simp
      · exact b3 r3 hr3
  · have := hlt r2 hr2 b hb2
    rcases hr with hr | hr
    · rw [hr] at hb; cases hb; omega
    · rw [hr] at hb; cases hb
/-- A write into one's own block. -/
theorem Hp.write (h : Hp H0 H L) (hf : Foc L r F) {b : Nat} {k : Blk} (hb : r.id = some b) (hk : H.get b = some k) {cs : List Value} (hr : r'.id = some b) (hh : r'.holds ((H.kill k.par).put b ⟨cs, true, Option.none⟩)) : Hp H0 ((H.kill k.par).put b ⟨cs, true, Option.none⟩) (F r') := by
  obtain ⟨L1, L2, rfl, hF⟩ := hf.split
  rw [hF]
  have hrm : r ∈ L1 ++ r :: L2 := by simp
  obtain ⟨p1, p2, p3⟩ := (h.res r hrm).2 b hb
  have hkill : ∀ c, (∀ q, k.par = some q → q ≠ c) → (H.kill k.par).get c = H.get c := by
    intro c hc
    cases hp : k.par with
    | none => rfl
    | some q => have := hc q hp; simp only [Heap.kill]; rw [if_neg (fun e => this e.symm)]
  have hn : ((H.kill k.par).put b ⟨cs, true, Option.none⟩).next = H.next := by simp [kill_next]
  have hget : ∀ c, c ≠ b → (∀ q, k.par = some q → q ≠ c) → ((H.kill k.par).put b ⟨cs, true, Option.none⟩).get c = H.get c := by
    intro c hc hq
    simp only [put_get, if_neg hc]; exact hkill c hq
  have hother : ∀ r2, r2 ∈ L1 ++ L2 → ∀ c, r2.id = some c → c ≠ b ∧ ∀ q, k.par = some q → q ≠ c := by
    intro r2 hr2 c hc
    constructor
    · rintro rfl
      have hd := h.dist
      rw [List.pairwise_append, List.pairwise_cons] at hd
      rcases List.mem_append.1 hr2 with hm | hm
      · exact hd.2.2 r2 hm r (by simp) c hc hb
      · exact hd.2.1.1 r2 hm c hb hc
    · intro q hq e
      subst e
      refine (p3 k hk q hq).2.2 r2 ?_ hc
      rcases List.mem_append.1 hr2 with hm | hm <;> simp [hm]
  have hids : ∀ r2, r2 ∈ L1 ++ r' :: L2 → r2 = r' ∨ r2 ∈ L1 ++ L2 := by
    intro r2 hm
    simp only [List.mem_append, List.mem_cons] at hm ⊢
    rcases hm with h | rfl | h
    · exact .inr (.inl h)
    · exact .inl rfl
    · exact .inr (.inr h)
  refine ⟨⟨by rw [hn]; exact h.fr.next, fun c hc => ?_⟩, fun r2 hr2 => ?_, ?_⟩
  · rw [hget c (by omega) (fun q hq e => by have := (p3 k hk q hq).1; omega), h.fr.get c hc]
  · rcases hids r2 hr2 with rfl | hm
    · refine ⟨hh, fun c hc => ?_⟩
      rw [hr] at hc; obtain rfl := Option.some.inj hc
      refine ⟨p1, by rw [hn]; exact p2, fun k2 hk2 q hq => ?_⟩
      simp only [put_get, if_true, Option.some.injEq] at hk2
      subst hk2; cases hq
    · obtain ⟨h1, h2⟩ := h.res r2 (by rcases List.mem_append.1 hm with hm | hm <;> simp [hm])
      refine ⟨Res.holds_eq h1 (fun c hc => hget c (hother r2 hm c hc).1 (hother r2 hm c hc).2), fun c hc => ?_⟩
      obtain ⟨a1, a2, a3⟩ := h2 c hc
      refine ⟨a1, by rw [hn]; exact a2, fun k2 hk2 q hq => ?_⟩
      rw [hget c (hother r2 hm c hc).1 (hother r2 hm c hc).2] at hk2
      obtain ⟨b1, b2, b3⟩ := a3 k2 hk2 q hq
      refine ⟨b1, by rw [hn]; exact b2, fun r3 hr3 => ?_⟩
      rcases hids r3 hr3 with rfl | hm3
      · rw [hr, ← hb]; exact b3 r hrm
      · exact b3 r3 (by rcases List.mem_append.1 hm3 with hm | hm <;> simp [hm])
  · have hd := h.dist
    rw [List.pairwise_append, List.pairwise_cons] at hd ⊢
    refine ⟨hd.1, ⟨fun r2 hr2 c hc => ?_, hd.2.1.2⟩, fun r2 hr2 r3 hr3 c hc => ?_⟩
    · rw [hr] at hc; exact hd.2.1.1 r2 hr2 c (by rw [hb]; exact hc)
    · rcases List.mem_cons.1 hr3 with rfl | hr3
      · rw [hr, ← hb]; exact hd.2.2 r2 hr2 r (by simp) c hc
      · exact hd.2.2 r2 hr2 r3 (by simp [hr3]) c hc
/-- A row's new place: its old block is spent. -/
theorem Hp.grow (h : Hp H0 H L) (hf : Foc L r F) {b : Nat} {k : Blk} (hb : r.id = some b) (hk : H.get b = some k) {cs ds : List Value} (hr : r'.id = some H.next)
    (hh : r'.holds (((H.kill k.par).put b ⟨cs, false, Option.none⟩).push ⟨ds, true, some b⟩)) : Hp H0 (((H.kill k.par).put b ⟨cs, false, Option.none⟩).push ⟨ds, true, some b⟩) (F r') := by
  obtain ⟨L1, L2, rfl, hF⟩ := hf.split
  rw [hF]
  have hrm : r ∈ L1 ++ r :: L2 := by simp
  obtain ⟨p1, p2, p3⟩ := (h.res r hrm).2 b hb
  have hkill : ∀ c, (∀ q, k.par = some q → q ≠ c) → (H.kill k.par).get c = H.get c := by
    intro c hc
    cases hp : k.par with
    | none => rfl
    | some q => have := hc q hp; simp only [Heap.kill]; rw [if_neg (fun e => this e.symm)]
  have hnx : ((H.kill k.par).put b ⟨cs, false, Option.none⟩).next = H.next := by simp [kill_next]
  have hn : (((H.kill k.par).put b ⟨cs, false, Option.none⟩).push ⟨ds, true, some b⟩).next = H.next + 1 := by simp [kill_next]
  have hget : ∀ c, c < H.next → c ≠ b → (∀ q, k.par = some q → q ≠ c) → (((H.kill k.par).put b ⟨cs, false, Option.none⟩).push ⟨ds, true, some b⟩).get c = H.get c := by
    intro c hl hc hq
    simp only [push_get, hnx]; rw [if_neg (by omega)]
    simp only [put_get, if_neg hc]; exact hkill c hq
  have hlt : ∀ r2 ∈ L1 ++ r :: L2, ∀ b, r2.id = some b → b < H.next := fun r2 hr2 b hb => ((h.res r2 hr2).2 b hb).2.1
  have hother : ∀ r2, r2 ∈ L1 ++ L2 → ∀ c, r2.id = some c → c < H.next ∧ c ≠ b ∧ ∀ q, k.par = some q → q ≠ c := by
    intro r2 hr2 c hc
    have hm2 : r2 ∈ L1 ++ r :: L2 := by rcases List.mem_append.1 hr2 with hm | hm <;> simp [hm]
    refine ⟨hlt r2 hm2 c hc, ?_, ?_⟩
    · rintro rfl
      have hd := h.dist
      rw [List.pairwise_append, List.pairwise_cons] at hd
      rcases List.mem_append.1 hr2 with hm | hm
      · exact hd.2.2 r2 hm r (by simp) c hc hb
      · exact hd.2.1.1 r2 hm c hb hc
    · intro q hq e
      subst e
      exact (p3 k hk q hq).2.2 r2 hm2 hc
  have hids : ∀ r2, r2 ∈ L1 ++ r' :: L2 → r2 = r' ∨ r2 ∈ L1 ++ L2 := by
    intro r2 hm
    simp only [List.mem_append, List.mem_cons] at hm ⊢
    rcases hm with h | rfl | h
    · exact .inr (.inl h)
    · exact .inl rfl
    · exact .inr (.inr h)
  refine ⟨⟨by rw [hn]; have := h.fr.next; omega, fun c hc => ?_⟩, fun r2 hr2 => ?_, ?_⟩
  · have := h.fr.next
    rw [hget c (by omega) (by omega) (fun q hq e => by have := (p3 k hk q hq).1; omega), h.fr.get c hc]
  · rcases hids r2 hr2 with rfl | hm
    · refine ⟨hh, fun c hc => ?_⟩
      rw [hr] at hc; obtain rfl := Option.some.inj hc
      refine ⟨h.fr.next, by rw [hn]; omega, fun k2 hk2 q hq => ?_⟩
      simp only [push_get, hnx, if_true, Option.some.injEq] at hk2
      subst hk2
      simp only [Option.some.injEq] at hq; subst hq
      refine ⟨p1, by rw [hn]; omega, fun r3 hr3 => ?_⟩
      rcases hids r3 hr3 with rfl | hm3
      · rw [hr]; intro e; cases e; omega
      · intro e; exact (hother r3 hm3 _ e).2.1 rfl
    · obtain ⟨h1, h2⟩ := h.res r2 (by rcases List.mem_append.1 hm with hm | hm <;> simp [hm])
      refine ⟨Res.holds_eq h1 (fun c hc => hget c (hother r2 hm c hc).1 (hother r2 hm c hc).2.1 (hother r2 hm c hc).2.2), fun c hc => ?_⟩
      obtain ⟨a1, a2, a3⟩ := h2 c hc
      refine ⟨a1, by rw [hn]; omega, fun k2 hk2 q hq => ?_⟩
      rw [hget c (hother r2 hm c hc).1 (hother r2 hm c hc).2.1 (hother r2 hm c hc).2.2] at hk2
      obtain ⟨b1, b2, b3⟩ := a3 k2 hk2 q hq
      refine ⟨b1, by rw [hn]; omega, fun r3 hr3 => ?_⟩
      rcases hids r3 hr3 with rfl | hm3
      · rw [hr]; intro e; cases e; omega
      · exact b3 r3 (by rcases List.mem_append.1 hm3 with hm | hm <;> simp [hm])
  · have hd := h.dist
    rw [List.pairwise_append, List.pairwise_cons] at hd ⊢
    refine ⟨hd.1, ⟨fun r2 hr2 c hc => ?_, hd.2.1.2⟩, fun r2 hr2 r3 hr3 c hc => ?_⟩
    · rw [hr] at hc; cases hc
      intro e; have := (hother r2 (by simp [hr2]) _ e).1; omega
    · rcases List.mem_cons.1 hr3 with rfl | hr3
      · rw [hr]; intro e; cases e; have := (hother r2 (by simp [hr2]) _ hc).1; omega
      · exact hd.2.2 r2 hr2 r3 (by simp [hr3]) c hc
theorem Hp.is {α : Type} {T : Enc α} {v : Value} {xs : List α} (h : Hp H0 H L) {size : Nat} {cs : List Value} (hm : Res.sl size v cs ∈ L) (hs : T.size = size) (hx : cs = T.all xs) : IsS T H v xs := by
  subst hs; subst hx
  obtain ⟨h1, h2⟩ := h.res _ hm
  rcases h1 with ⟨rfl, h1⟩ | ⟨b, o, n, c, k, rfl, h3, h4, h5, h6, h7, h8⟩
  · have : xs = [] := by
      have := T.all_length xs
      rw [h1] at this
      have hp := T.pos
      cases xs with
      | nil => rfl
      | cons x xs => simp only [List.length_nil, List.length_cons, Nat.add_mul, Nat.one_mul] at this; omega
    subst this; exact .isNil
  · have hn : n = xs.length := by
      rw [T.all_length] at h5
      exact (Nat.eq_of_mul_eq_mul_right T.pos h5).symm
    subst hn
    exact .isSome b o c _ k xs rfl h8 (h2 b rfl).2.1 h3 h6
end
end Go.Ab

namespace Go.Ab
open Go

/-! ### Lists of cells, computed clean -/
def nthO : List Value → Nat → Option Value
  | [], _ => none
  | x :: _, 0 => some x
  | _ :: l, n + 1 => nthO l n
def appO : List Value → List Value → Option (List Value)
  | [], r => some r
  | x :: l, r => match appO l r with | some q => some (x :: q) | none => none
def ovO : List Value → List Value → Option (List Value)
  | l, [] => some l
  | [], _ :: _ => none
  | _ :: l, x :: c => match ovO l c with | some q => some (x :: q) | none => none
def putO : List Value → Nat → List Value → Option (List Value)
  | l, 0, c => ovO l c
  | [], _ + 1, _ => none
  | x :: l, n + 1, c => match putO l n c with | some q => some (x :: q) | none => none
def takO : List Value → Nat → Option (List Value)
  | _, 0 => some []
  | [], _ + 1 => none
  | x :: l, n + 1 => match takO l n with | some q => some (x :: q) | none => none
def subO : List Value → Nat → Nat → Option (List Value)
  | l, 0, n => takO l n
  | [], _ + 1, _ => none
  | _ :: l, o + 1, n => subO l o n
def replO : Nat → List Value → Option (List Value)
  | 0, _ => some []
  | n + 1, z => match replO n z with | some q => appO z q | none => none
def lenN : List Value → Nat → Bool
  | [], 0 => true
  | [], _ + 1 => false
  | _ :: _, 0 => false
  | _ :: l, n + 1 => lenN l n
/-- A value's cells, so many. -/
def celO (n : Nat) : Value → Option (List Value)
  | .agg ⟨l⟩ => bif lenN l n then some l else none
  | .tuple _ => none
  | v => bif Nat.beq n 1 then some [v] else none
theorem nthO_get : ∀ {l : List Value} {n : Nat} {v : Value}, nthO l n = some v → l[n]? = some v
  | [], _, _, h => by simp [nthO] at h
  | x :: _, 0, v, h => by simpa [nthO] using h
  | _ :: l, n + 1, v, h => by simpa using nthO_get (l := l) h
theorem appO_eq : ∀ {l r q : List Value}, appO l r = some q → q = l ++ r
  | [], r, q, h => by simp [appO] at h; exact h.symm
  | x :: l, r, q, h => by
    simp only [appO] at h
    split at h
    · rename_i q' h1; cases h; rw [appO_eq h1]; rfl
    · cases h
theorem ovO_eq : ∀ {l c q : List Value}, ovO l c = some q → q = c ++ l.drop c.length ∧ c.length ≤ l.length
  | l, [], q, h => by simp [ovO] at h; simp [h]
  | [], _ :: _, q, h => by simp [ovO] at h
  | y :: l, x :: c, q, h => by
    simp only [ovO] at h
    split at h
    · rename_i q' h1
      cases h
      obtain ⟨h2, h3⟩ := ovO_eq h1
      subst h2; simp; exact h3
    · cases h
theorem putO_eq : ∀ {l : List Value} {n : Nat} {c q : List Value}, putO l n c = some q → q = putCells l n c ∧ n + c.length ≤ l.length
  | l, 0, c, q, h => by
    have h : ovO l c = some q := by cases l <;> exact h
    obtain ⟨h1, h2⟩ := ovO_eq h
    subst h1; simp [putCells]; exact h2
  | [], _ + 1, _, q, h => by simp [putO] at h
  | x :: l, n + 1, c, q, h => by
    simp only [putO] at h
    split at h
    · rename_i q' h1
      cases h
      obtain ⟨h2, h3⟩ := putO_eq h1
      subst h2
      refine ⟨?_, by simp; omega⟩
      simp only [putCells, List.take_succ_cons, List.cons_append, Nat.add_right_comm n 1, List.drop_succ_cons]
    · cases h
theorem takO_eq : ∀ {l : List Value} {n : Nat} {q : List Value}, takO l n = some q → q = l.take n ∧ n ≤ l.length
  | l, 0, q, h => by have h : some [] = some q := by cases l <;> exact h
                     cases h; simp
  | [], _ + 1, q, h => by simp [takO] at h
  | x :: l, n + 1, q, h => by
    simp only [takO] at h
    split at h
    · rename_i q' h1
      cases h
      obtain ⟨h2, h3⟩ := takO_eq h1
      subst h2; exact ⟨rfl, by simpa using h3⟩
    · cases h
theorem subO_eq : ∀ {l : List Value} {o n : Nat} {q : List Value}, subO l o n = some q → q = (l.drop o).take n ∧ o + n ≤ l.length
  | l, 0, n, q, h => by
    have h : takO l n = some q := by cases l <;> exact h
    obtain ⟨h1, h2⟩ := takO_eq h
    exact ⟨by simpa using h1, by simpa using h2⟩
  | [], _ + 1, _, q, h => by simp [subO] at h
  | x :: l, o + 1, n, q, h => by
    obtain ⟨h1, h2⟩ := subO_eq (l := l) (o := o) h
    exact ⟨by simpa using h1, by simp; omega⟩
theorem lenN_eq : ∀ {l : List Value} {n : Nat}, lenN l n = true → l.length = n
  | [], 0, _ => rfl
  | [], _ + 1, h => by simp [lenN] at h
  | _ :: _, 0, h => by simp [lenN] at h
  | _ :: l, n + 1, h => by simp [lenN_eq (l := l) h]
theorem celO_eq {n : Nat} {v : Value} {c : List Value} (h : celO n v = some c) : isTup v = false ∧ cellsV v = c ∧ c.length = n := by
  cases v <;> first
    | (simp only [celO] at h
       cases hb : Nat.beq n 1 with
       | false => rw [hb] at h; simp at h
       | true => rw [hb] at h; simp only [cond_true, Option.some.injEq] at h; subst h; have := Nat.eq_of_beq_eq_true hb; subst this; exact ⟨rfl, rfl, rfl⟩)
    | skip
  case agg cs =>
    obtain ⟨l⟩ := cs
    simp only [celO] at h
    cases hb : lenN l n with
    | false => rw [hb] at h; simp at h
    | true => rw [hb] at h; simp only [cond_true, Option.some.injEq] at h; subst h; exact ⟨rfl, rfl, lenN_eq hb⟩
  case tuple vs => simp [celO] at h
def celB : Value → Option (List Value)
  | .agg ⟨l⟩ => some l
  | .tuple _ => none
  | v => some [v]
theorem celB_eq {v : Value} {c : List Value} (h : celB v = some c) : isTup v = false ∧ cellsV v = c := by
  cases v <;> first
    | (simp only [celB, Option.some.injEq] at h; subst h; exact ⟨rfl, rfl⟩)
    | (simp [celB] at h)
theorem replA_succ (n : Nat) {z : List Value} (hz : 0 < z.length) : replA (n + 1) z = z ++ replA n z := by
  unfold replA
  rw [Nat.add_mul, Nat.one_mul, Nat.add_comm, List.range_add, List.map_append, List.map_map]
  congr 1
  · apply List.ext_getElem?
    intro i
    rw [List.getElem?_map]
    by_cases hi : i < z.length
    · rw [List.getElem?_range hi]
      simp [List.getD_eq_getElem?_getD, Nat.mod_eq_of_lt hi, List.getElem?_eq_getElem hi]
    · rw [List.getElem?_eq_none (by simpa using hi), List.getElem?_eq_none (by simpa using hi)]; rfl
  · apply List.map_congr_left
    intro i _
    simp
theorem replO_eq : ∀ {n : Nat} {z q : List Value}, 0 < z.length → replO n z = some q → q = replA n z
  | 0, z, q, _, h => by simp [replO] at h; subst h; simp [replA]
  | n + 1, z, q, hz, h => by
    simp only [replO] at h
    split at h
    · rename_i q' h1
      rw [appO_eq h, replO_eq hz h1, replA_succ n hz]
    · cases h
def fillO (al : AL) : List (Nat × Nat × Operand) → List Value → Option (List Value)
  | [], cs => some cs
  | (off, size, x) :: rest, cs => match evL al x with
    | none => none
    | some v => match celO size v with
      | none => none
      | some c => match putO cs off c with
        | none => none
        | some q => fillO al rest q
theorem fillO_L {al : AL} : ∀ {ps : List (Nat × Nat × Operand)} {z cs : List Value}, fillO al ps z = some cs → fillL al ps z = some cs
  | [], z, cs, h => h
  | (off, size, x) :: rest, z, cs, h => by
    simp only [fillO] at h
    split at h
    · cases h
    · rename_i v hv
      split at h
      · cases h
      · rename_i c hc
        split at h
        · cases h
        · rename_i q hq
          obtain ⟨h1, h2, h3⟩ := celO_eq hc
          obtain ⟨h4, h5⟩ := putO_eq hq
          subst h4; subst h2
          simp only [fillL, hv]
          rw [if_pos ⟨h1, h3, by omega⟩]
          exact fillO_L h

theorem push_self {H : Heap} {k : Blk} : (H.push k).get H.next = some k := if_pos rfl
theorem put_self {H : Heap} {b : Nat} {k : Blk} : (H.put b k).get b = some k := if_pos rfl
theorem push_self' {H : Heap} {o : Option Nat} {b : Nat} {k1 k : Blk} : (((H.kill o).put b k1).push k).get H.next = some k := by
  have : ((H.kill o).put b k1).next = H.next := by simp [kill_next]
  rw [← this]; exact push_self
section
variable {P : Program} {Q : Post} {e : Env} {al : AL} {H0 H : Heap} {K N : Env → Heap → Prop} {X : Value → Heap → Prop} {os : List AOper} {k a b : ACode} {d : Nat} {L : List Res} {F : Res → List Res}
variable {x y z : Operand} {u v w r : Value}
theorem h_bld {ps : List (Nat × Nat × Operand)} {z cs : List Value} (h : fillO al ps z = some cs) (r : Ops P os K X e ((d, .agg ⟨cs⟩) :: al) H) : Ops P (A d (.bld z ps) :: os) K X e al H := p_bld (fillO_L h) r
theorem h_fld {off : Nat} {l : List Value} (hx : evL al x = some (.agg ⟨l⟩)) (h : nthO l off = some w) (r : Ops P os K X e ((d, w) :: al) H) : Ops P (A d (.fld none off x) :: os) K X e al H :=
  p_fld hx (by show (Array.mk l)[off]? = some w; simpa using nthO_get h) r
theorem h_fldN {off n : Nat} {l cs : List Value} (hx : evL al x = some (.agg ⟨l⟩)) (h : subO l off n = some cs) (r : Ops P os K X e ((d, .agg ⟨cs⟩) :: al) H) : Ops P (A d (.fld (some n) off x) :: os) K X e al H :=
  p_fld hx (by
    obtain ⟨h1, _⟩ := subO_eq h
    subst h1
    show some (Value.agg ((Array.mk l).extract off (off + n))) = _
    congr 2; apply Array.ext'; simp [List.extract_eq_take_drop]) r
theorem h_ext {i : Nat} {l : List Value} (hx : evL al x = some (.tuple ⟨l⟩)) (h : nthO l i = some w) (r : Ops P os K X e ((d, w) :: al) H) : Ops P (A d (.ext x i) :: os) K X e al H :=
  p_ext hx (by simpa using nthO_get h) r

theorem h_al (hp : Hp H0 H L) {z : List Value} (r : ∀ b H', Hp H0 H' (.blk b z :: L) → Ops P os K X e ((d, .pointer (some ⟨b, 0, none⟩)) :: al) H') : Ops P (A d (.al z) :: os) K X e al H :=
  p_al (r _ _ (hp.push (r := .blk H.next z) (.inl rfl) ⟨_, push_self, rfl, rfl⟩))
theorem h_bx (hp : Hp H0 H L) {c : List Value} (hx : evL al x = some u) (hc : celB u = some c) (r : ∀ b H', Hp H0 H' (.blk b c :: L) → Ops P os K X e ((d, .pointer (some ⟨b, 0, none⟩)) :: al) H') : Ops P (A d (.bx x) :: os) K X e al H := by
  obtain ⟨h1, h2⟩ := celB_eq hc
  subst h2
  exact p_bx hx h1 (r _ _ (hp.push (r := .blk H.next _) (.inl rfl) ⟨_, push_self, rfl, rfl⟩))
theorem h_bs (hp : Hp H0 H L) {len size : Nat} {z q cs : List Value} {ps : List (Nat × Nat × Operand)} (hz : lenN z size = true) (hs : Nat.blt 0 size = true) (hs2 : Nat.blt size 64 = true) (hq : replO len z = some q) (h : fillO al ps q = some cs) (hl : lenN cs (len * size) = true)
    (r : ∀ v H', Hp H0 H' (.sl size v cs :: L) → Ops P os K X e ((d, v) :: al) H') : Ops P (A d (.bs len size z ps) :: os) K X e al H := by
  have hz' := lenN_eq hz
  have hs' : 0 < size := by simpa [Nat.blt_eq] using hs
  have hs2' : size < 64 := by simpa [Nat.blt_eq] using hs2
  have hl' := lenN_eq hl
  have h1 := replO_eq (by omega) hq
  subst h1
  refine p_bs (fillO_L h) (r _ _ (hp.push (r := .sl size (mkS H.next len ((2 * len + 1) * 64 + size)) cs) (.inl rfl) (.inr ⟨H.next, 0, len, _, _, rfl, push_self, rfl, hl', ?_, by simp; omega, by omega⟩)))
  rw [← hl']; simp
/-- 'make'. -/
theorem h_ms (hp : Hp H0 H L) {α : Type} (T : Enc α) (x0 : α) {size bytes : Nat} {z : List Value} {k1 k2 : IntKind} {l c : Int} (hx : evL al x = some (.int k1 l)) (hy : evL al y = some (.int k2 c)) (hs : T.size = size) (hz : T.enc x0 = z) (hs2 : Nat.blt size 64 = true)
    (h0 : 0 ≤ l ∧ l ≤ c ∧ c ≤ 1073741824) (hb : Nat.ble bytes 131072 = true) (r : ∀ v H', Hp H0 H' (.sl size v (T.all (List.replicate l.toNat x0)) :: L) → Ops P os K X e ((d, v) :: al) H') : Ops P (A d (.ms size bytes z x y) :: os) K X e al H := by
  have hs2' : size < 64 := by simpa [Nat.blt_eq] using hs2
  have hb' : bytes ≤ 131072 := Nat.le_of_ble_eq_true hb
  subst hs; subst hz
  have hrep : ∀ n, replA n (T.enc x0) = T.all (List.replicate n x0) := by
    intro n
    induction n with
    | zero => simp [replA]
    | succ n ih => rw [replA_succ n (by rw [T.ok]; exact T.pos), ih, List.replicate_succ]; rfl
  have hc : c * bytes ≤ 140737488355328 := by
    have : c * bytes ≤ 1073741824 * 131072 := Int.mul_le_mul h0.2.2 (by omega) (by omega) (by omega)
    omega
  refine p_ms hx hy (w := mkS H.next l.toNat ((2 * c.toNat + 1) * 64 + T.size)) (H' := H.push ⟨T.all (List.replicate c.toNat x0), true, none⟩) (by simp only [msA]; rw [if_pos ⟨h0.1, h0.2.1, h0.2.2, hc⟩, hrep]) (r _ _ ?_)
  have hle : l.toNat ≤ c.toNat := by omega
  have := Nat.mul_le_mul_right T.size hle
  refine hp.push (r := .sl T.size _ _) (.inl rfl) (.inr ⟨H.next, 0, l.toNat, _, _, rfl, push_self, rfl, by rw [T.all_length]; simp, ?_, by simp only [T.all_length, List.length_replicate]; omega, by omega⟩)
  simp only [List.drop_zero]
  rw [T.all_take, List.take_replicate, Nat.min_eq_left hle]
/-- One's own block, cell by cell. -/
theorem h_ldB (hp : Hp H0 H L) {b o : Nat} {cs : List Value} (hx : evL al x = some (.pointer (some ⟨b, o, none⟩))) (hm : Res.blk b cs ∈ L) (h : nthO cs o = some w) (r : Ops P os K X e ((d, w) :: al) H) : Ops P (A d (.ld none x) :: os) K X e al H :=
  p_ld hx (by
    obtain ⟨⟨k, h1, h2, rfl⟩, _⟩ := hp.res _ hm
    show (H.get b).bind _ = _
    rw [h1]; exact nthO_get h) r
theorem h_ldBW (hp : Hp H0 H L) {b o n : Nat} {cs c : List Value} (hx : evL al x = some (.pointer (some ⟨b, o, none⟩))) (hm : Res.blk b cs ∈ L) (h : subO cs o n = some c) (r : Ops P os K X e ((d, .agg ⟨c⟩) :: al) H) : Ops P (A d (.ld (some n) x) :: os) K X e al H :=
  p_ld hx (by
    obtain ⟨⟨k, h1, h2, rfl⟩, _⟩ := hp.res _ hm
    obtain ⟨h3, h4⟩ := subO_eq h
    subst h3
    show (rdH H b o n).map _ = _
    unfold rdH; rw [h1]; simp only [Option.bind_some]; rw [if_pos h4]; rfl) r
theorem h_stB (hp : Hp H0 H L) {b o n : Nat} {cs c q : List Value} (hx : evL al x = some (.pointer (some ⟨b, o, none⟩))) (hy : evL al y = some v) (hf : Foc L (.blk b cs) F) (hc : celO n v = some c) (h : putO cs o c = some q)
    (r : ∀ H', Hp H0 H' (F (.blk b q)) → Ops P os K X e al H') : Ops P (S (.st n x y) :: os) K X e al H := by
  obtain ⟨⟨k, h1, h2, rfl⟩, h3⟩ := hp.res _ hf.mem
  obtain ⟨c1, c2, c3⟩ := celO_eq hc
  obtain ⟨q1, q2⟩ := putO_eq h
  subst q1; subst c2
  refine p_st hx hy (H' := (H.kill k.par).put b ⟨putCells k.cells o (cellsV v), true, none⟩) ?_ (r _ (hp.write hf (b := b) rfl h1 rfl ⟨_, put_self, rfl, rfl⟩))
  simp only [stA]
  rw [if_pos ⟨c1, c3⟩]
  unfold wrH
  rw [h1]; simp only [Option.bind_some]
  rw [if_pos ⟨h2, q2⟩]
theorem own_split (hp : Hp H0 H L) {size : Nat} {cs : List Value} (hm : Res.sl size v cs ∈ L) (h0 : 0 < cs.length) : ∃ b o n c k, v = .slice (some ⟨b, o, none⟩) n c ∧ H.get b = some k ∧ k.own = true ∧ cs.length = n * size ∧ (k.cells.drop o).take (n * size) = cs ∧ o + n * size ≤ k.cells.length ∧ c % 64 = size := by
  obtain ⟨h1, _⟩ := hp.res _ hm
  rcases h1 with ⟨rfl, rfl⟩ | h
  · simp at h0
  · exact h
theorem put_mid {ks : List Value} {o n j : Nat} {cs c : List Value} (h : (ks.drop o).take n = cs) (hl : o + n ≤ ks.length) (hj : j + c.length ≤ n) : ((putCells ks (o + j) c).drop o).take n = putCells cs j c := by
  subst h
  unfold putCells
  apply List.ext_getElem?
  intro i
  simp only [List.getElem?_append, List.getElem?_take, List.getElem?_drop, List.length_take, List.length_drop, List.length_append]
  have e1 : min (o + j) ks.length = o + j := by omega
  have e2 : min j (min n (ks.length - o)) = j := by omega
  simp only [e1, e2]
  by_cases h1 : i < n
  · rw [if_pos h1]
    by_cases h2 : i < j
    · repeat rw [if_pos (by omega)]
    · by_cases h3 : i < j + c.length
      · rw [if_pos (by omega), if_neg (by omega), if_pos (by omega), if_neg (by omega)]; congr 1; omega
      · rw [if_neg (by omega), if_neg (by omega), if_pos (by omega)]; congr 1; omega
  · rw [if_neg h1]
    by_cases h3 : i < j + c.length
    · omega
    · rw [if_neg (by omega), if_neg (by omega)]
theorem st_own' (hp : Hp H0 H L) {size : Nat} {cs : List Value} (hf : Foc L (.sl size v cs) F) {c q : List Value} {j : Nat} (hj : j + c.length ≤ cs.length) (h0 : 0 < cs.length) (hq : q = putCells cs j c) : ∃ H', wrH H (blkOf v) (offOf v + j) c = some H' ∧ Hp H0 H' (F (.sl size v q)) := by
  obtain ⟨b, o, n, c0, k, rfl, h1, h2, h3, h4, h5, h6⟩ := own_split hp hf.mem h0
  subst hq
  refine ⟨(H.kill k.par).put b ⟨putCells k.cells (o + j) c, true, none⟩, ?_, hp.write hf (b := b) rfl h1 rfl (.inr ⟨b, o, n, c0, _, rfl, put_self, rfl, ?_, ?_, ?_, h6⟩)⟩
  · simp only [blkOf, offOf]
    unfold wrH
    rw [h1]; simp only [Option.bind_some]
    rw [if_pos ⟨h2, by omega⟩]
  · simp only [putCells, List.length_append, List.length_take, List.length_drop]; omega
  · exact put_mid h4 h5 (by omega)
  · simp only [putCells, List.length_append, List.length_take, List.length_drop]; omega
/-- A write into one's own slice: a whole element. -/
theorem h_stS (hp : Hp H0 H L) {α : Type} {T : Enc α} {n size : Nat} {xs : List α} {i : Int} (x' : α) (hx : evL al x = some (ptA u size i)) (hy : evL al y = some v) (hf : Foc L (.sl size u (T.all xs)) F) (hs : T.size = size) (h0 : 0 ≤ i) (h1 : i < xs.length) (hc : celO n v = some (T.enc x'))
    (r : ∀ H', Hp H0 H' (F (.sl size u (T.all (xs.set i.toNat x')))) → Ops P os K X e al H') : Ops P (S (.st n x y) :: os) K X e al H := by
  subst hs
  obtain ⟨c1, c2, c3⟩ := celO_eq hc
  have hlt : i.toNat < xs.length := by omega
  have hle := Nat.mul_le_mul_right T.size (show i.toNat + 1 ≤ xs.length from hlt)
  rw [Nat.add_mul, Nat.one_mul] at hle
  have hpos := T.pos
  obtain ⟨H', h2, h3⟩ := st_own' hp hf (c := T.enc x') (j := i.toNat * T.size) (by rw [T.all_length, T.ok]; exact hle) (by rw [T.all_length]; omega) rfl
  refine p_st hx hy (H' := H') ?_ (r H' (by rw [T.all_set hlt] at h3; exact h3))
  simp only [stA]
  rw [if_pos ⟨c1, by rw [c2]; exact c3⟩, c2, h2]
/-- A part of an element. -/
theorem h_stSo (hp : Hp H0 H L) {α : Type} [Inhabited α] {T : Enc α} {n size off : Nat} {xs : List α} {i : Int} (x' : α) {c : List Value} (hx : evL al x = some (ptO u size i off)) (hy : evL al y = some v) (hf : Foc L (.sl size u (T.all xs)) F) (hs : T.size = size) (h0 : 0 ≤ i) (h1 : i < xs.length) (hc : celO n v = some c) (hq : putO (T.enc (gI xs i)) off c = some (T.enc x'))
    (r : ∀ H', Hp H0 H' (F (.sl size u (T.all (xs.set i.toNat x')))) → Ops P os K X e al H') : Ops P (S (.st n x y) :: os) K X e al H := by
  subst hs
  obtain ⟨c1, c2, c3⟩ := celO_eq hc
  obtain ⟨q1, q2⟩ := putO_eq hq
  rw [T.ok] at q2
  have hlt : i.toNat < xs.length := by omega
  have hle := Nat.mul_le_mul_right T.size (show i.toNat + 1 ≤ xs.length from hlt)
  rw [Nat.add_mul, Nat.one_mul] at hle
  have hpos := T.pos
  have hg := gI_some h0 h1
  have key : putCells (T.all xs) (i.toNat * T.size + off) c = T.all (xs.set i.toNat x') := by
    rw [← T.all_set hlt, q1]
    have e1 := T.all_get hg
    have hA := T.all_length xs
    rw [← put_mid e1 (by rw [hA]; exact hle) (by omega)]
    generalize T.all xs = ks at *
    unfold putCells
    apply List.ext_getElem?
    intro m
    simp only [List.getElem?_append, List.getElem?_take, List.getElem?_drop, List.length_take, List.length_drop, List.length_append]
    have f1 : min (i.toNat * T.size + off) ks.length = i.toNat * T.size + off := by omega
    have f2 : min (i.toNat * T.size) ks.length = i.toNat * T.size := by omega
    simp only [f1, f2]
    have f3 : min T.size (i.toNat * T.size + off + c.length + (ks.length - (i.toNat * T.size + off + c.length)) - i.toNat * T.size) = T.size := by omega
    simp only [f3]
    by_cases g1 : m < i.toNat * T.size
    · repeat rw [if_pos (by omega)]
    · by_cases g2 : m < i.toNat * T.size + T.size
      · have : i.toNat * T.size + (m - i.toNat * T.size) = m := by omega
        rw [if_pos (show m < i.toNat * T.size + T.size by omega), if_neg g1, if_pos (show m - i.toNat * T.size < T.size by omega), this]
      · repeat rw [if_neg (by omega)]
        congr 1; omega
  obtain ⟨H', h2, h3⟩ := st_own' hp hf (c := c) (j := i.toNat * T.size + off) (by rw [T.all_length]; omega) (by rw [T.all_length]; omega) key.symm
  refine p_st hx hy (H' := H') ?_ (r H' h3)
  simp only [stA]
  rw [if_pos ⟨c1, by rw [c2]; exact c3⟩, c2, Nat.add_assoc]; exact h2
theorem Hp.swap (hp : Hp H0 H L) {r r' : Res} (hf : Foc L r F) (hi : r'.id = r.id) (hh : r'.holds H) : Hp H0 H (F r') := by
  obtain ⟨L1, L2, rfl, hF⟩ := hf.split
  rw [hF]
  have conv : ∀ q, (∀ r2 ∈ L1 ++ r :: L2, r2.id ≠ some q) → ∀ r2 ∈ L1 ++ r' :: L2, r2.id ≠ some q := by
    intro q hq r2 hr2
    simp only [List.mem_append, List.mem_cons] at hr2
    rcases hr2 with h | rfl | h
    · exact hq r2 (by simp [h])
    · rw [hi]; exact hq r (by simp)
    · exact hq r2 (by simp [h])
  have convP : ∀ b, ParOk H0 H (L1 ++ r :: L2) b → ParOk H0 H (L1 ++ r' :: L2) b := by
    rintro b ⟨a1, a2, a3⟩
    refine ⟨a1, a2, fun k hk q hq => ?_⟩
    obtain ⟨b1, b2, b3⟩ := a3 k hk q hq
    exact ⟨b1, b2, conv q b3⟩
  refine ⟨hp.fr, fun r2 hr2 => ?_, ?_⟩
  · simp only [List.mem_append, List.mem_cons] at hr2
    have old : r2 ∈ L1 ++ r :: L2 → r2.holds H ∧ ∀ b, r2.id = some b → ParOk H0 H (L1 ++ r' :: L2) b := fun hm => ⟨(hp.res r2 hm).1, fun b hb => convP b ((hp.res r2 hm).2 b hb)⟩
    rcases hr2 with h | rfl | h
    · exact old (by simp [h])
    · exact ⟨hh, fun b hb => convP b ((hp.res r (by simp)).2 b (by rw [← hi]; exact hb))⟩
    · exact old (by simp [h])
  · have hd := hp.dist
    rw [List.pairwise_append, List.pairwise_cons] at hd ⊢
    refine ⟨hd.1, ⟨fun r2 hr2 j hj => hd.2.1.1 r2 hr2 j (by rw [← hi]; exact hj), hd.2.1.2⟩, fun r2 hr2 r3 hr3 j hj => ?_⟩
    rcases List.mem_cons.1 hr3 with rfl | hr3
    · rw [hi]; exact hd.2.2 r2 hr2 r (by simp) j hj
    · exact hd.2.2 r2 hr2 r3 (by simp [hr3]) j hj
theorem Hp.swap_new (hp : Hp H0 H L) {r r' : Res} (hf : Foc L r F) {cs : List Value} (hr : r'.id = some H.next ∨ r'.id = none) (hh : r'.holds (H.push ⟨cs, true, none⟩)) : Hp H0 (H.push ⟨cs, true, none⟩) (F r') := by
  obtain ⟨L1, L2, rfl, hF⟩ := hf.split
  rw [hF]
  have h1 : Hp H0 H (L1 ++ L2) := hp.sub (by simp)
  refine (h1.push hr hh).perm ?_
  exact List.perm_middle
theorem app_core (hp : Hp H0 H L) {size bytes : Nat} {cs ds : List Value} {m : Nat} (hf : Foc L (.sl size u cs) F) (hx : slcA size H v = some (m, ds)) (hd : ds.length = m * size) (hs : 0 < size) (hs2 : size < 64) (hb : cs.length + ds.length ≤ 1073741824 * size) :
    ∃ s' H', appA size bytes H u v = some (s', H') ∧ Hp H0 H' (F (.sl size s' (cs ++ ds))) := by
  obtain ⟨h1, _⟩ := hp.res _ hf.mem
  rcases h1 with ⟨rfl, rfl⟩ | ⟨b, o, n, c, k, rfl, h3, h4, h5, h6, h7, h8⟩
  · by_cases hm : m = 0
    · subst hm
      have : ds = [] := List.length_eq_zero_iff.1 (by simpa using hd)
      subst this
      refine ⟨.slice none 0 0, H, by simp only [appA, hx, Option.bind_some, if_true], ?_⟩
      obtain ⟨L1, L2, rfl, hF⟩ := hf.split
      rw [hF]; exact hp
    · have hm2 : m ≤ 1073741824 := by
        simp only [List.length_nil, Nat.zero_add, hd] at hb
        exact Nat.le_of_mul_le_mul_right hb hs
      refine ⟨mkS H.next m size, H.push ⟨ds, true, none⟩, by simp only [appA, hx, Option.bind_some]; rw [if_neg hm, if_pos hm2], hp.swap_new hf (.inl rfl) (.inr ⟨H.next, 0, m, size, _, rfl, push_self, rfl, by simpa using hd, ?_, by simp; omega, by omega⟩)⟩
      simp only [List.drop_zero, List.nil_append]; rw [← hd]; simp
  · by_cases hm : m = 0
    · subst hm
      have : ds = [] := List.length_eq_zero_iff.1 (by simpa using hd)
      subst this
      refine ⟨.slice (some ⟨b, o, none⟩) n c, H, by simp only [appA, hx, Option.bind_some, if_true], ?_⟩
      obtain ⟨L1, L2, rfl, hF⟩ := hf.split
      rw [hF, List.append_nil]; exact hp
    · have hm2 : n + m ≤ 1073741824 := by
        rw [h5, hd, ← Nat.add_mul] at hb
        exact Nat.le_of_mul_le_mul_right hb hs
      have htot : (cs ++ ds).length = (n + m) * size := by rw [List.length_append, h5, hd, Nat.add_mul]
      have hself : slcA size H (.slice (some ⟨b, o, none⟩) n c) = some (n, cs) := by
        unfold slcA
        simp only
        split
        · rename_i hn; subst hn
          have : cs = [] := List.length_eq_zero_iff.1 (by simpa using h5)
          subst this; rfl
        · simp only [rdH, h3, Option.bind_some]
          rw [if_pos h7, h6]; rfl
      by_cases hc : c / 64 ≠ 0 ∧ c / 64 < 2 * (n + m) + 1
      · refine ⟨mkS H.next (n + m) size, H.push ⟨cs ++ ds, true, none⟩, by simp only [appA, hx, Option.bind_some]; rw [if_neg hm, if_pos hm2, if_pos hc, hself]; rfl, hp.swap_new hf (.inl rfl) (.inr ⟨H.next, 0, n + m, size, _, rfl, push_self, rfl, htot, ?_, by simp only [htot]; omega, by omega⟩)⟩
        simp only [List.drop_zero]; rw [← htot]; exact List.take_length
      · refine ⟨mkS H.next (n + m) size, ((H.kill k.par).put b ⟨k.cells.take (o + n * size), false, none⟩).push ⟨cs ++ ds, true, some b⟩, by simp only [appA, hx, Option.bind_some]; rw [if_neg hm, if_pos hm2, if_neg hc, h3]; simp only [Option.bind_some]; rw [if_pos ⟨h4, h8, h7⟩, h6], ?_⟩
        refine hp.grow hf (b := b) rfl h3 rfl (.inr ⟨H.next, 0, n + m, size, _, rfl, push_self', rfl, htot, ?_, by simp only [htot]; omega, by omega⟩)
        simp only [List.drop_zero]; rw [← htot]; exact List.take_length
/-- 'append' of a row that was made for it. -/
theorem h_app {size : Nat} {ds : List Value} (hp : Hp H0 H (.sl size v ds :: L)) {bytes : Nat} {z cs : List Value} (hx : evL al x = some u) (hy : evL al y = some v) (hf : Foc L (.sl size u cs) F) (hs2 : Nat.blt size 64 = true) (hs : Nat.blt 0 size = true) (hb : cs.length + ds.length ≤ 1073741824 * size)
    (r : ∀ s H', Hp H0 H' (F (.sl size s (cs ++ ds))) → Ops P os K X e ((d, s) :: al) H') : Ops P (A d (.app size bytes z x y) :: os) K X e al H := by
  have hs' : 0 < size := by simpa [Nat.blt_eq] using hs
  have hs2' : size < 64 := by simpa [Nat.blt_eq] using hs2
  obtain ⟨h1, _⟩ := hp.res (.sl size v ds) (by simp)
  have hx' : ∃ m, slcA size H v = some (m, ds) ∧ ds.length = m * size := by
    rcases h1 with ⟨rfl, rfl⟩ | ⟨b, o, n, c, k, rfl, h3, h4, h5, h6, h7, h8⟩
    · exact ⟨0, rfl, by simp⟩
    · refine ⟨n, ?_, h5⟩
      unfold slcA
      simp only
      split
      · rename_i hn; subst hn
        have : ds = [] := List.length_eq_zero_iff.1 (by simpa using h5)
        subst this; rfl
      · simp only [rdH, h3, Option.bind_some]
        rw [if_pos h7, h6]; rfl
  obtain ⟨m, h2, h3⟩ := hx'
  obtain ⟨s', H', h4, h5⟩ := app_core (bytes := bytes) hp.drop hf h2 h3 hs' hs2' hb
  exact p_app hx hy h4 (r s' H' h5)
/-- 'append' of one element. -/
theorem h_app1 {size : Nat} {ds : List Value} {α : Type} {T : Enc α} {xs : List α} (y' : α) (hp : Hp H0 H (.sl size v ds :: L)) {bytes : Nat} {z : List Value} (hx : evL al x = some u) (hy : evL al y = some v) (hf : Foc L (.sl size u (T.all xs)) F) (hs2 : Nat.blt size 64 = true) (hs : T.size = size) (hd : ds = T.enc y') (hb : xs.length + 1 ≤ 1073741824)
    (r : ∀ s H', Hp H0 H' (F (.sl size s (T.all (xs ++ [y'])))) → Ops P os K X e ((d, s) :: al) H') : Ops P (A d (.app size bytes z x y) :: os) K X e al H := by
  subst hs; subst hd
  refine h_app hp hx hy hf hs2 (by rw [Nat.blt_eq]; exact T.pos) ?_ (fun s H' h => r s H' ?_)
  · rw [T.all_length, T.ok, ← Nat.succ_mul]; exact Nat.mul_le_mul_right _ hb
  · simpa [Enc.all] using h
/-- 'append' of a row that is read. -/
theorem h_appR {size : Nat} {α : Type} {T : Enc α} {xs ys : List α} (hp : Hp H0 H L) {bytes : Nat} {z : List Value} (hx : evL al x = some u) (hy : evL al y = some v) (hf : Foc L (.sl size u (T.all xs)) F) (hi : IsS T H v ys) (hs2 : Nat.blt size 64 = true) (hs : T.size = size) (hb : xs.length + ys.length ≤ 1073741824)
    (r : ∀ s H', Hp H0 H' (F (.sl size s (T.all (xs ++ ys)))) → Ops P os K X e ((d, s) :: al) H') : Ops P (A d (.app size bytes z x y) :: os) K X e al H := by
  subst hs
  have hs2' : T.size < 64 := by simpa [Nat.blt_eq] using hs2
  obtain ⟨s', H', h4, h5⟩ := app_core (bytes := bytes) hp hf hi.slc (T.all_length ys) T.pos hs2' (by rw [T.all_length, T.all_length, ← Nat.add_mul]; exact Nat.mul_le_mul_right _ hb)
  exact p_app hx hy h4 (r s' H' (by simpa [Enc.all] using h5))
/-- A part of one's own slice, in its place. -/
theorem h_slS {size : Nat} {α : Type} {T : Enc α} {xs : List α} (hp : Hp H0 H L) {lo hi : Option Operand} {k1 k2 : IntKind} {l h : Int} {vlo vhi : Option Value} (hx : evL al x = some u) (hlo : lo.map (evL al) = vlo.map some) (hhi : hi.map (evL al) = vhi.map some) (hf : Foc L (.sl size u (T.all xs)) F) (hs : T.size = size)
    (e1 : vlo = some (.int k1 l) ∨ (vlo = none ∧ l = 0)) (e2 : vhi = some (.int k2 h) ∨ (vhi = none ∧ h = xs.length)) (h0 : 0 ≤ l) (h1 : l ≤ h) (h2 : h ≤ xs.length)
    (r : ∀ s, Hp H0 H (F (.sl size s (T.all ((xs.drop l.toNat).take (h.toNat - l.toNat))))) → Ops P os K X e ((d, s) :: al) H) : Ops P (A d (.sl size x lo hi none) :: os) K X e al H := by
  subst hs
  obtain ⟨g1, g2⟩ := hp.res _ hf.mem
  have o1 : optI vlo 0 = some l.toNat := by
    rcases e1 with rfl | ⟨rfl, rfl⟩
    · simp [optI, h0]
    · rfl
  rcases g1 with ⟨rfl, g1⟩ | ⟨b, o, n, c, k, rfl, h3, h4, h5, h6, h7, h8⟩
  · have : xs = [] := by
      have := T.all_length xs
      rw [g1] at this
      have hp := T.pos
      cases xs with
      | nil => rfl
      | cons x xs => simp only [List.length_nil, List.length_cons, Nat.add_mul, Nat.one_mul] at this; omega
    subst this
    have hl : l = 0 := by simp at h2; omega
    have hh : h = 0 := by simp at h2; omega
    subst hl; subst hh
    have o2 : optI vhi 0 = some 0 := by
      rcases e2 with rfl | ⟨rfl, e⟩
      · rfl
      · rfl
    refine p_sl (vmx := none) hx hlo hhi rfl (w := .slice none 0 0) (by simp only [slA, o1, o2]; rfl) (r _ ?_)
    obtain ⟨L1, L2, rfl, hF⟩ := hf.split
    rw [hF] at *; exact hp
  · have hn : n = xs.length := by
      rw [T.all_length] at h5
      exact (Nat.eq_of_mul_eq_mul_right T.pos h5).symm
    subst hn
    have o2 : optI vhi xs.length = some h.toNat := by
      rcases e2 with rfl | ⟨rfl, rfl⟩
      · simp [optI, Int.le_trans h0 h1]
      · simp [optI]
    have h9 : c % 64 = T.size ∧ l.toNat ≤ h.toNat ∧ h.toNat ≤ xs.length := ⟨h8, by omega, by omega⟩
    refine p_sl (vmx := none) hx hlo hhi rfl (w := _) (by simp only [slA, o1, o2]; rw [if_pos h9]) (r _ ?_)
    have h64 : (if c / 64 = 0 then T.size else (c / 64 - 2 * l.toNat) * 64 + T.size) % 64 = T.size := by
      have : T.size < 64 := by rw [← h8]; exact Nat.mod_lt _ (by decide)
      split <;> omega
    generalize hd : (if c / 64 = 0 then T.size else (c / 64 - 2 * l.toNat) * 64 + T.size) = c' at h64 ⊢
    have hlen : ((xs.drop l.toNat).take (h.toNat - l.toNat)).length = h.toNat - l.toNat := by simp; omega
    have hle : h.toNat * T.size ≤ xs.length * T.size := Nat.mul_le_mul_right _ (by omega)
    have hle2 : l.toNat * T.size ≤ h.toNat * T.size := Nat.mul_le_mul_right _ (by omega)
    refine hp.swap hf (by rfl) (.inr ⟨b, _, _, c', k, rfl, h3, h4, by rw [T.all_length, hlen], ?_, ?_, h64⟩)
    · rw [← T.all_take, ← T.all_drop, ← h6, List.drop_take, List.take_take, List.drop_drop]
      congr 1
      rw [Nat.sub_mul, Nat.min_eq_left]
      omega
    · rw [Nat.sub_mul]; omega
/-- A part of a slice that is read. -/
theorem h_slR {size : Nat} {α : Type} {T : Enc α} {xs : List α} {lo hi : Option Operand} {k1 k2 : IntKind} {l h : Int} {vlo vhi : Option Value} (hx : evL al x = some u) (hlo : lo.map (evL al) = vlo.map some) (hhi : hi.map (evL al) = vhi.map some) (hi' : IsS T H u xs) (hs : T.size = size)
    (e1 : vlo = some (.int k1 l) ∨ (vlo = none ∧ l = 0)) (e2 : vhi = some (.int k2 h) ∨ (vhi = none ∧ h = xs.length)) (h0 : 0 ≤ l) (h1 : l ≤ h) (h2 : h ≤ xs.length)
    (r : ∀ s, (∀ H', IsS T H' u xs → IsS T H' s ((xs.drop l.toNat).take (h.toNat - l.toNat))) → Ops P os K X e ((d, s) :: al) H) : Ops P (A d (.sl size x lo hi none) :: os) K X e al H := by
  subst hs
  obtain ⟨v', g1, g2⟩ := hi'.sl (k1 := k1) (k2 := k2) h0 h1 h2
  have hl := hi'.len
  have e3 : slA T.size u vlo vhi none = some v' := by
    rw [← g1]
    have : ∀ (o : Option Addr) n c, u = .slice o n c → n = xs.length := by
      rintro o n c rfl
      simp only [lenA, Option.some.injEq, Value.int.injEq, true_and] at hl
      omega
    cases hi' with
    | isNil =>
      have hl0 : l = 0 := by simp at h2; omega
      have hh0 : h = 0 := by simp at h2; omega
      subst hl0; subst hh0
      rcases e1 with rfl | ⟨rfl, _⟩ <;> rcases e2 with rfl | ⟨rfl, _⟩ <;> rfl
    | isEmpty b o c h6 =>
      have hl0 : l = 0 := by simp at h2; omega
      have hh0 : h = 0 := by simp at h2; omega
      subst hl0; subst hh0
      rcases e1 with rfl | ⟨rfl, _⟩ <;> rcases e2 with rfl | ⟨rfl, _⟩ <;> rfl
    | isSome b o c n k xs hn h6 hb hk hc =>
      subst hn
      rcases e1 with rfl | ⟨rfl, rfl⟩ <;> rcases e2 with rfl | ⟨rfl, rfl⟩ <;> simp [slA, optI, h0]
  exact p_sl (vmx := none) hx hlo hhi rfl e3 (r v' g2)
end
end Go.Ab

namespace Go.Ab
open Go
theorem gI_nat {α : Type} [Inhabited α] {xs : List α} {i : Nat} (h : i < xs.length) : xs[i]? = some (gI xs i) := by
  have := gI_some (xs := xs) (i := (i : Int)) (by omega) (by omega)
  simpa using this
theorem take_gI {α : Type} [Inhabited α] {xs : List α} {i : Nat} (h : i < xs.length) : xs.take (i + 1) = xs.take i ++ [gI xs i] := by
  rw [List.take_add_one, gI_nat h]; rfl
theorem drop_gI {α : Type} [Inhabited α] {xs : List α} {i : Nat} (h : i < xs.length) : xs.drop i = gI xs i :: xs.drop (i + 1) := by
  rw [List.drop_eq_getElem_cons h]; congr 1
  have := gI_nat h
  rw [List.getElem?_eq_getElem h] at this; simpa using this
theorem gI_mem {α : Type} [Inhabited α] {xs : List α} {i : Int} (h0 : 0 ≤ i) (h1 : i < xs.length) : gI xs i ∈ xs := List.mem_of_getElem? (gI_some h0 h1)
theorem gI_getElem {α : Type} [Inhabited α] {xs : List α} {i : Nat} (h : i < xs.length) : gI xs i = xs[i] := by
  have := gI_nat h
  rw [List.getElem?_eq_getElem h] at this; simpa using this.symm
theorem gI_append_left {α : Type} [Inhabited α] {xs ys : List α} {i : Int} (h0 : 0 ≤ i) (h : i < xs.length) : gI (xs ++ ys) i = gI xs i := by
  have : i.toNat < xs.length := by omega
  simp only [gI, List.getD_eq_getElem?_getD, List.getElem?_append_left this]
theorem gI_append_right {α : Type} [Inhabited α] {xs ys : List α} {i : Int} (h : xs.length ≤ i) : gI (xs ++ ys) i = gI ys (i - xs.length) := by
  have : xs.length ≤ i.toNat := by omega
  simp only [gI, List.getD_eq_getElem?_getD, List.getElem?_append_right this]
  congr 2; omega
theorem gI_set {α : Type} [Inhabited α] {xs : List α} {i j : Int} {x : α} (h0 : 0 ≤ i) (hj0 : 0 ≤ j) (hj : j < xs.length) : gI (xs.set i.toNat x) j = if i = j then x else gI xs j := by
  have : j.toNat < xs.length := by omega
  simp only [gI, List.getD_eq_getElem?_getD]
  by_cases h : i = j
  · subst h; simp [List.getElem?_set, this]
  · rw [if_neg h, List.getElem?_set_ne (by omega)]
theorem gI_map {α β : Type} [Inhabited α] [Inhabited β] {f : α → β} {xs : List α} {i : Int} (h0 : 0 ≤ i) (h1 : i < xs.length) : gI (xs.map f) i = f (gI xs i) := by
  have : i.toNat < xs.length := by omega
  simp [gI, List.getD_eq_getElem?_getD, List.getElem?_eq_getElem this]
/-- A list of known length, place by place. -/
theorem ext_gI {α : Type} [Inhabited α] {xs ys : List α} (hl : xs.length = ys.length) (h : ∀ i : Nat, i < xs.length → gI xs i = gI ys i) : xs = ys := by
  apply List.ext_getElem?
  intro i
  by_cases hi : i < xs.length
  · rw [gI_nat hi, gI_nat (by omega), h i hi]
  · rw [List.getElem?_eq_none (by omega), List.getElem?_eq_none (by omega)]
theorem IsS.nt {α : Type} {T : Enc α} {H : Heap} {v : Value} {xs : List α} (h : IsS T H v xs) : isTup v = false := by cases h <;> rfl
theorem Hp.nt {H0 H : Heap} {L : List Res} {size : Nat} {v : Value} {cs : List Value} (h : Hp H0 H L) (hm : Res.sl size v cs ∈ L) : isTup v = false := by
  obtain ⟨h1, _⟩ := h.res _ hm
  rcases h1 with ⟨rfl, _⟩ | ⟨b, o, n, c, k, rfl, _⟩ <;> rfl
theorem Hp.is2 {H0 H : Heap} {L : List Res} {α : Type} {T : Enc α} {v : Value} {xs : List α} {size : Nat} (h : Hp H0 H L) (hm : Res.sl size v (T.all xs) ∈ L) (hs : T.size = size) : IsS T H v xs := h.is hm hs rfl
theorem Fr.hp {H H' : Heap} (h : Fr H H') : Hp H H' [] := ⟨h, fun r hr => by simp at hr, List.Pairwise.nil⟩
theorem Hp.then {H0 H : Heap} {L : List Res} {G : Heap → Prop} (h : Hp H0 H L) (g : ∀ H', Hp H0 H' L → G H') : ∀ H', Fr H H' → G H' := fun H' hf => g H' (h.trans hf.hp)
theorem Hp.then1 {H0 H : Heap} {L : List Res} {G : Value → Heap → Prop} {r : Value → Res} (h : Hp H0 H L) (g : ∀ v H', Hp H0 H' (r v :: L) → G v H') : ∀ v H', Hp H H' [r v] → G v H' := fun v H' hf => g v H' (h.trans hf)
theorem Hp.then2 {H0 H : Heap} {L : List Res} {G : Value → Value → Heap → Prop} {r q : Value → Res} (h : Hp H0 H L) (g : ∀ v u H', Hp H0 H' (r v :: q u :: L) → G v u H') : ∀ v u H', Hp H H' [r v, q u] → G v u H' := fun v u H' hf => g v u H' (h.trans hf)

section
variable {P : Program} {Q : Post} {e : Env} {al : AL} {H0 H : Heap} {K N : Env → Heap → Prop} {X : Value → Heap → Prop} {os : List AOper} {d : Nat} {L : List Res} {F : Res → List Res}
variable {x y z lo hi : Operand} {u v w : Value} {size : Nat} {α : Type} {T : Enc α} {xs : List α} {k1 k2 : IntKind} {l h : Int}
theorem sl_lh (hp : Hp H0 H L) (hx : evL al x = some u) (hlo : evL al lo = some (.int k1 l)) (hhi : evL al hi = some (.int k2 h)) (hf : Foc L (.sl size u (T.all xs)) F) (hs : T.size = size) (h0 : 0 ≤ l) (h1 : l ≤ h) (h2 : h ≤ xs.length)
    (r : ∀ s, Hp H0 H (F (.sl size s (T.all ((xs.drop l.toNat).take (h.toNat - l.toNat))))) → Ops P os K X e ((d, s) :: al) H) : Ops P (A d (.sl size x (some lo) (some hi) none) :: os) K X e al H :=
  h_slS hp hx (vlo := some (.int k1 l)) (vhi := some (.int k2 h)) (by simp [hlo]) (by simp [hhi]) hf hs (.inl rfl) (.inl rfl) h0 h1 h2 r
theorem sl_h (hp : Hp H0 H L) (hx : evL al x = some u) (hhi : evL al hi = some (.int k2 h)) (hf : Foc L (.sl size u (T.all xs)) F) (hs : T.size = size) (h1 : 0 ≤ h) (h2 : h ≤ xs.length)
    (r : ∀ s, Hp H0 H (F (.sl size s (T.all (xs.take h.toNat)))) → Ops P os K X e ((d, s) :: al) H) : Ops P (A d (.sl size x none (some hi) none) :: os) K X e al H :=
  h_slS hp hx (k1 := .i64) (l := 0) (vlo := none) (vhi := some (.int k2 h)) (by simp) (by simp [hhi]) hf hs (.inr ⟨rfl, rfl⟩) (.inl rfl) (Int.le_refl _) h1 h2 (by simpa using r)
theorem sl_l (hp : Hp H0 H L) (hx : evL al x = some u) (hlo : evL al lo = some (.int k1 l)) (hf : Foc L (.sl size u (T.all xs)) F) (hs : T.size = size) (h1 : 0 ≤ l) (h2 : l ≤ xs.length)
    (r : ∀ s, Hp H0 H (F (.sl size s (T.all (xs.drop l.toNat)))) → Ops P os K X e ((d, s) :: al) H) : Ops P (A d (.sl size x (some lo) none none) :: os) K X e al H :=
  h_slS hp hx (k2 := .i64) (h := xs.length) (vlo := some (.int k1 l)) (vhi := none) (by simp [hlo]) (by simp) hf hs (.inl rfl) (.inr ⟨rfl, rfl⟩) h1 h2 (Int.le_refl _) (fun s hs => r s (by rw [show (xs.drop l.toNat).take ((xs.length : Int).toNat - l.toNat) = xs.drop l.toNat from List.take_of_length_le (by simp)] at hs; exact hs))
theorem sr_lh (hi' : IsS T H u xs) (hx : evL al x = some u) (hlo : evL al lo = some (.int k1 l)) (hhi : evL al hi = some (.int k2 h)) (hs : T.size = size) (h0 : 0 ≤ l) (h1 : l ≤ h) (h2 : h ≤ xs.length)
    (r : ∀ s, (∀ H', IsS T H' u xs → IsS T H' s ((xs.drop l.toNat).take (h.toNat - l.toNat))) → Ops P os K X e ((d, s) :: al) H) : Ops P (A d (.sl size x (some lo) (some hi) none) :: os) K X e al H :=
  h_slR hx (vlo := some (.int k1 l)) (vhi := some (.int k2 h)) (by simp [hlo]) (by simp [hhi]) hi' hs (.inl rfl) (.inl rfl) h0 h1 h2 r
theorem sr_h (hi' : IsS T H u xs) (hx : evL al x = some u) (hhi : evL al hi = some (.int k2 h)) (hs : T.size = size) (h1 : 0 ≤ h) (h2 : h ≤ xs.length)
    (r : ∀ s, (∀ H', IsS T H' u xs → IsS T H' s (xs.take h.toNat)) → Ops P os K X e ((d, s) :: al) H) : Ops P (A d (.sl size x none (some hi) none) :: os) K X e al H :=
  h_slR hx (k1 := .i64) (l := 0) (vlo := none) (vhi := some (.int k2 h)) (by simp) (by simp [hhi]) hi' hs (.inr ⟨rfl, rfl⟩) (.inl rfl) (Int.le_refl _) h1 h2 (by simpa using r)
theorem sr_l (hi' : IsS T H u xs) (hx : evL al x = some u) (hlo : evL al lo = some (.int k1 l)) (hs : T.size = size) (h1 : 0 ≤ l) (h2 : l ≤ xs.length)
    (r : ∀ s, (∀ H', IsS T H' u xs → IsS T H' s (xs.drop l.toNat)) → Ops P os K X e ((d, s) :: al) H) : Ops P (A d (.sl size x (some lo) none none) :: os) K X e al H :=
  h_slR hx (k2 := .i64) (h := xs.length) (vlo := some (.int k1 l)) (vhi := none) (by simp [hlo]) (by simp) hi' hs (.inl rfl) (.inr ⟨rfl, rfl⟩) h1 h2 (Int.le_refl _) (fun s hs => r s (fun H' hi2 => by
    have := hs H' hi2
    rw [show (xs.drop l.toNat).take ((xs.length : Int).toNat - l.toNat) = xs.drop l.toNat from List.take_of_length_le (by simp)] at this; exact this))
end
section
variable {P : Program} {Q : Post} {e : Env} {al : AL} {H : Heap} {K : Env → Heap → Prop} {X : Value → Heap → Prop} {os : List AOper} {d j : Nat} {w : Bool} {op : AOp}
theorem c_mv {x : Operand} (h : Ops P (A d (.mv x) :: os) K X e al H) : Ops P (A d (.mv x) :: os) K X e al H := h
theorem c_pick {x y z : Operand} (h : Ops P (A d (.pick x y z) :: os) K X e al H) : Ops P (A d (.pick x y z) :: os) K X e al H := h
theorem c_bin {op : BinOp} {x y : Operand} (h : Ops P (A d (.bin op x y) :: os) K X e al H) : Ops P (A d (.bin op x y) :: os) K X e al H := h
theorem c_eqB {n : Bool} {x y : Operand} (h : Ops P (A d (.eqB n x y) :: os) K X e al H) : Ops P (A d (.eqB n x y) :: os) K X e al H := h
theorem c_eqG {op : BinOp} {t : TypeId} {x y : Operand} (h : Ops P (A d (.eqG op t x y) :: os) K X e al H) : Ops P (A d (.eqG op t x y) :: os) K X e al H := h
theorem c_isnil {n : Nat} {b : Bool} {x : Operand} (h : Ops P (A d (.isnil n b x) :: os) K X e al H) : Ops P (A d (.isnil n b x) :: os) K X e al H := h
theorem c_un {op : UnOp} {x : Operand} (h : Ops P (A d (.un op x) :: os) K X e al H) : Ops P (A d (.un op x) :: os) K X e al H := h
theorem c_cvI {k : IntKind} {x : Operand} (h : Ops P (A d (.cvI k x) :: os) K X e al H) : Ops P (A d (.cvI k x) :: os) K X e al H := h
theorem c_cvF {k : FloatKind} {x : Operand} (h : Ops P (A d (.cvF k x) :: os) K X e al H) : Ops P (A d (.cvF k x) :: os) K X e al H := h
theorem c_nilc {x : Operand} (h : Ops P (A d (.nilc x) :: os) K X e al H) : Ops P (A d (.nilc x) :: os) K X e al H := h
theorem c_fa {n : Nat} {x : Operand} (h : Ops P (A d (.fa n x) :: os) K X e al H) : Ops P (A d (.fa n x) :: os) K X e al H := h
theorem c_ia {n : Nat} {x y : Operand} (h : Ops P (A d (.ia n x y) :: os) K X e al H) : Ops P (A d (.ia n x y) :: os) K X e al H := h
theorem c_iaA {m n : Nat} {x y : Operand} (h : Ops P (A d (.iaA m n x y) :: os) K X e al H) : Ops P (A d (.iaA m n x y) :: os) K X e al H := h
theorem c_sl {n : Nat} {x : Operand} {lo hi mx : Option Operand} (h : Ops P (A d (.sl n x lo hi mx) :: os) K X e al H) : Ops P (A d (.sl n x lo hi mx) :: os) K X e al H := h
theorem c_slS {x : Operand} {lo hi : Option Operand} (h : Ops P (A d (.slS x lo hi) :: os) K X e al H) : Ops P (A d (.slS x lo hi) :: os) K X e al H := h
theorem c_fld {n : Option Nat} {m : Nat} {x : Operand} (h : Ops P (A d (.fld n m x) :: os) K X e al H) : Ops P (A d (.fld n m x) :: os) K X e al H := h
theorem c_ixS {x y : Operand} (h : Ops P (A d (.ixS x y) :: os) K X e al H) : Ops P (A d (.ixS x y) :: os) K X e al H := h
theorem c_ixA {n : Option Nat} {l m : Nat} {x y : Operand} (h : Ops P (A d (.ixA n l m x y) :: os) K X e al H) : Ops P (A d (.ixA n l m x y) :: os) K X e al H := h
theorem c_ext {x : Operand} {n : Nat} (h : Ops P (A d (.ext x n) :: os) K X e al H) : Ops P (A d (.ext x n) :: os) K X e al H := h
theorem c_bld {z : List Value} {ps : List (Nat × Nat × Operand)} (h : Ops P (A d (.bld z ps) :: os) K X e al H) : Ops P (A d (.bld z ps) :: os) K X e al H := h
theorem c_mkf {f : FuncId} {xs ys : List Operand} (h : Ops P (A d (.mkf f xs ys) :: os) K X e al H) : Ops P (A d (.mkf f xs ys) :: os) K X e al H := h
theorem c_mki {t : TypeId} {x : Operand} (h : Ops P (A d (.mki t x) :: os) K X e al H) : Ops P (A d (.mki t x) :: os) K X e al H := h
theorem c_len {x : Operand} (h : Ops P (A d (.len x) :: os) K X e al H) : Ops P (A d (.len x) :: os) K X e al H := h
theorem c_lenS {x : Operand} (h : Ops P (A d (.lenS x) :: os) K X e al H) : Ops P (A d (.lenS x) :: os) K X e al H := h
theorem c_mx {xs : List Operand} (h : Ops P (A d (.mx xs) :: os) K X e al H) : Ops P (A d (.mx xs) :: os) K X e al H := h
theorem c_mn {xs : List Operand} (h : Ops P (A d (.mn xs) :: os) K X e al H) : Ops P (A d (.mn xs) :: os) K X e al H := h
theorem c_re {x : Operand} (h : Ops P (A d (.re x) :: os) K X e al H) : Ops P (A d (.re x) :: os) K X e al H := h
theorem c_im {x : Operand} (h : Ops P (A d (.im x) :: os) K X e al H) : Ops P (A d (.im x) :: os) K X e al H := h
theorem c_cx {x y : Operand} (h : Ops P (A d (.cx x y) :: os) K X e al H) : Ops P (A d (.cx x y) :: os) K X e al H := h
theorem c_ld {n : Option Nat} {x : Operand} (h : Ops P (A d (.ld n x) :: os) K X e al H) : Ops P (A d (.ld n x) :: os) K X e al H := h
theorem c_bx {x : Operand} (h : Ops P (A d (.bx x) :: os) K X e al H) : Ops P (A d (.bx x) :: os) K X e al H := h
theorem c_al {z : List Value} (h : Ops P (A d (.al z) :: os) K X e al H) : Ops P (A d (.al z) :: os) K X e al H := h
theorem c_bs {m n : Nat} {z : List Value} {ps : List (Nat × Nat × Operand)} (h : Ops P (A d (.bs m n z ps) :: os) K X e al H) : Ops P (A d (.bs m n z ps) :: os) K X e al H := h
theorem c_ms {m n : Nat} {z : List Value} {x y : Operand} (h : Ops P (A d (.ms m n z x y) :: os) K X e al H) : Ops P (A d (.ms m n z x y) :: os) K X e al H := h
theorem c_app {m n : Nat} {z : List Value} {x y : Operand} (h : Ops P (A d (.app m n z x y) :: os) K X e al H) : Ops P (A d (.app m n z x y) :: os) K X e al H := h
theorem c_call {f : FuncId} {xs : List Operand} (h : Ops P (A d (.call f xs) :: os) K X e al H) : Ops P (A d (.call f xs) :: os) K X e al H := h
theorem c_dyn {x : Operand} {xs : List Operand} (h : Ops P (A d (.dyn x xs) :: os) K X e al H) : Ops P (A d (.dyn x xs) :: os) K X e al H := h
theorem c_G (h : Ops P (G d j w op :: os) K X e al H) : Ops P (G d j w op :: os) K X e al H := h
theorem c_GS (h : Ops P (GS j w op :: os) K X e al H) : Ops P (GS j w op :: os) K X e al H := h
theorem c_st {n : Nat} {x y : Operand} (h : Ops P (S (.st n x y) :: os) K X e al H) : Ops P (S (.st n x y) :: os) K X e al H := h
theorem c_S (h : Ops P (S op :: os) K X e al H) : Ops P (S op :: os) K X e al H := h
theorem c_Ops {os : List AOper} (h : Ops P os K X e al H) : Ops P os K X e al H := h
theorem c_Wk {c : ACode} (h : Wk P c Q e al H) : Wk P c Q e al H := h
theorem c_cond {x : Operand} {a b k : ACode} (h : Wk P (.cond x a b k) Q e al H) : Wk P (.cond x a b k) Q e al H := h
theorem c_Pst {x : AEx} (h : Pst Q x e al H) : Pst Q x e al H := h
end
/-- 'append' to a row that goes on being read. -/
theorem h_appK {P : Program} {e : Env} {al : AL} {H0 H : Heap} {K : Env → Heap → Prop} {X : Value → Heap → Prop} {os : List AOper} {d : Nat} {L : List Res} {F : Res → List Res} {x y : Operand} {u v : Value} {size : Nat} {α : Type} {T : Enc α} {xs ys : List α} (hp : Hp H0 H L) {bytes : Nat} {z : List Value} (hx : evL al x = some u) (hy : evL al y = some v) (hf : Foc L (.sl size u (T.all xs)) F) (hi : IsS T H v ys) (hs2 : Nat.blt size 64 = true) (hs : T.size = size) (hb : xs.length + ys.length ≤ 1073741824)
    (r : ∀ s H', Fr H0 H' → IsS T H' u xs → IsS T H' s (xs ++ ys) → Ops P os K X e ((d, s) :: al) H') : Ops P (A d (.app size bytes z x y) :: os) K X e al H := by
  subst hs
  have hs2' : T.size < 64 := by simpa [Nat.blt_eq] using hs2
  have hu := hp.is2 hf.mem rfl
  have hc := app_core (bytes := bytes) hp hf hi.slc (T.all_length ys) T.pos hs2' (by rw [T.all_length, T.all_length, ← Nat.add_mul]; exact Nat.mul_le_mul_right _ hb)
  obtain ⟨s', H', h4, h5⟩ := hc
  have hlast : ∀ L', Hp H0 H' L' → ∀ s, Res.sl T.size s (T.all xs ++ T.all ys) ∈ L' → IsS T H' s (xs ++ ys) := fun L' h s hm => h.is hm rfl (by simp [Enc.all])
  have hnew : IsS T H' s' (xs ++ ys) := by
    obtain ⟨L1, L2, rfl, hF⟩ := hf.split
    rw [hF] at h5
    exact hlast _ h5 s' (by simp)
  refine p_app hx hy h4 (r s' H' h5.fr ?_ hnew)
  -- the elder row
  obtain ⟨_, hpar⟩ := hp.res _ hf.mem
  have hslc := hi.slc
  cases hu with
  | isNil => exact .isNil
  | isEmpty b o c h6 => exact .isEmpty b o c h6
  | isSome b o c n k xs hn h6 hbl hk hcells =>
    simp only [appA, hslc, Option.bind_some] at h4
    split at h4
    · cases h4; exact .isSome b o c n k xs hn h6 hbl hk hcells
    · split at h4
      · split at h4
        · simp only [Option.map_eq_some_iff, Prod.mk.injEq] at h4
          obtain ⟨q, _, _, rfl⟩ := h4
          exact .isSome b o c n k xs hn h6 (Nat.lt_succ_of_lt hbl) (by simp only [push_get]; rw [if_neg (by omega)]; exact hk) hcells
        · simp only [hk, Option.bind_some] at h4
          split at h4
          · rename_i hcond
            cases h4
            have hnx : ((H.kill k.par).put b ⟨k.cells.take (o + n * T.size), false, none⟩).next = H.next := by simp [kill_next]
            refine .isSome b o c n ⟨k.cells.take (o + n * T.size), false, none⟩ xs hn h6 (by simp [kill_next]; omega) (by simp only [push_get, hnx]; rw [if_neg (by omega)]; simp) ?_
            subst hn
            rw [← hcells, List.drop_take, List.take_take]
            congr 1
            omega
          · cases h4
      · cases h4
theorem baLoop (b : ByteArray) : ∀ (n i : Nat) (r : List UInt8), b.size - i = n → ByteArray.toList.loop b i r = r.reverse ++ b.data.toList.drop i := by
  intro n
  induction n with
  | zero =>
    intro i r h
    rw [ByteArray.toList.loop, if_neg (by omega), List.drop_eq_nil_of_le (by simp only [Array.length_toList]; show b.size ≤ i; omega), List.append_nil]
  | succ n ih =>
    intro i r h
    have hi : i < b.data.toList.length := by simp only [Array.length_toList]; show i < b.size; omega
    rw [ByteArray.toList.loop, if_pos (by omega), ih (i + 1) _ (by omega), List.drop_eq_getElem_cons hi, List.reverse_cons, List.append_assoc]
    congr 1
    have : b.get! i = b.data.toList[i] := by
      show b.data[i]! = _
      rw [getElem!_pos b.data i (by show i < b.size; omega)]; simp
    rw [this]; rfl
theorem baList (b : ByteArray) : b.toList = b.data.toList := by
  rw [ByteArray.toList, baLoop b _ 0 [] rfl]; simp
theorem csList (l : List UInt8) : (ByteArray.mk l.toArray).toList = l := by rw [baList]
end Go.Ab

namespace Go.Ab
open Go

/-! ### What is handed in, as blocks that are read -/
def NoOwn (H : Heap) : Prop := ∀ b k, H.get b = some k → k.own = false
def tileB (P : Program) : List Field → Nat → Nat → Bool
  | [], o, tot => o == tot
  | f :: r, o, tot => f.offset == o && tileB P r (o + P.cellsOf f.type) tot
def supp (P : Program) : Nat → TypeId → Bool
  | 0, _ => false
  | n + 1, t => match P.underlying t with
    | some .bool => P.cellsOf t == 1
    | some (.int _) => P.cellsOf t == 1
    | some .string => P.cellsOf t == 1
    | some (.slice e) => P.cellsOf t == 1 && supp P n e && decide (0 < P.cellsOf e) && decide (P.cellsOf e < 64)
    | some (.struct fs) => fs.toList.all (fun f => supp P n f.type) && tileB P fs.toList 0 (P.cellsOf t)
    | some (.array k e) => supp P n e && P.cellsOf t == k * P.cellsOf e
    | _ => false
def RdA (P : Program) (H : Heap) : Nat → TypeId → List Value → Prop
  | 0, _, _ => False
  | n + 1, t, cs => match P.underlying t with
    | some .bool => ∃ b, cs = [.bool b]
    | some (.int k) => ∃ x, cs = [.int k x] ∧ k.min ≤ x ∧ x ≤ k.max
    | some .string => ∃ s : ByteArray, cs = [.string s] ∧ s.size ≤ reachBytes
    | some (.slice e) => cs = [.slice none 0 0] ∨ (∃ b o, cs = [.slice (some ⟨b, o, none⟩) 0 (P.cellsOf e)]) ∨ ∃ b k m, cs = [.slice (some ⟨b, 0, none⟩) m (P.cellsOf e)] ∧ b < H.next ∧ H.get b = some k ∧ m * P.cellsOf e ≤ k.cells.length ∧ m * P.bytesOf e ≤ reachBytes ∧ ∀ i, i < m → RdA P H n e ((k.cells.drop (i * P.cellsOf e)).take (P.cellsOf e))
    | some (.struct fs) => cs.length = P.cellsOf t ∧ ∀ f ∈ fs.toList, RdA P H n f.type ((cs.drop f.offset).take (P.cellsOf f.type))
    | some (.array k e) => cs.length = P.cellsOf t ∧ ∀ i, i < k → RdA P H n e ((cs.drop (i * P.cellsOf e)).take (P.cellsOf e))
    | _ => False
theorem RdA.fr {P : Program} {H H' : Heap} (r : Fr H H') : ∀ (n : Nat) (t : TypeId) (cs : List Value), RdA P H n t cs → RdA P H' n t cs
  | 0, _, _, h => h
  | n + 1, t, cs, h => by
    unfold RdA at h ⊢
    split at h
    · exact h
    · exact h
    · exact h
    · rcases h with h | h | ⟨b, k, m, h1, h2, h3, h4, h5, h6⟩
      · exact .inl h
      · exact .inr (.inl h)
      · exact .inr (.inr ⟨b, k, m, h1, Nat.lt_of_lt_of_le h2 r.next, by rw [r.get b h2]; exact h3, h4, h5, fun i hi => RdA.fr r n _ _ (h6 i hi)⟩)
    · exact ⟨h.1, fun f hf => RdA.fr r n _ _ (h.2 f hf)⟩
    · exact ⟨h.1, fun i hi => RdA.fr r n _ _ (h.2 i hi)⟩
    · exact h

theorem add_blk (a : Addr) (q : Nat) : (a.add q).block = a.block := by cases q <;> simp [Addr.add_zero', Addr.add_succ']
theorem add_off (a : Addr) (q : Nat) : (a.add q).off = a.off + q := by cases q <;> simp [Addr.add_zero', Addr.add_succ']
theorem add_add' (a : Addr) (m n : Nat) : (a.add m).add n = a.add (m + n) := by
  unfold Addr.add
  by_cases hm : m = 0 <;> by_cases hn : n = 0 <;> simp [hm, hn, Nat.add_assoc]
theorem cell_block {w : World} {a : Addr} {v : Value} (h : w.cell? a = some v) : a.spot = none ∧ ∃ c e fr, w.heap[a.block]? = some (.cells c e fr) ∧ c[a.off]? = some v := by
  refine ⟨World.cell?_spot h, ?_⟩
  unfold World.cell? at h
  split at h
  · rename_i c e fr hb
    split at h
    · cases h
    · exact ⟨c, e, fr, hb, h⟩
  · cases h
theorem cells_get {w : World} {b : Nat} {a : Addr} {n : Nat} {cs : List Value} (h : w.cells? b a n = some cs) : cs.length = n ∧ ∀ i, i < n → w.cell? (a.add i) = cs[i]? := by
  unfold World.cells? at h
  split at h
  · obtain ⟨h1, h2⟩ := mapM_some h
    refine ⟨by simpa using h1.symm, fun i hi => ?_⟩
    obtain ⟨y, h3, h4⟩ := h2 i i (by simp [hi])
    rw [h3, h4]
  · cases h
section
variable {base nG : Nat} {s : Sig} {H : Heap} {w : World}
/-- A block that is read. -/
theorem HRel.pushR (h : HRel base nG s H w) (hno : NoOwn H) (cells : List Value) {g d m : Nat} {c : Array Value} {e : TypeId} {fr : Nat × Nat} (hg : w.heap[g]? = some (.cells c e fr)) (hm : d + m ≤ c.size)
    (hc : ∀ (j : Nat) v, cells[j]? = some v → ∃ v', c[d + j]? = some v' ∧ LRel s v v') :
    HRel base nG (s.add H.next (g, d, m)) (H.push ⟨cells, false, none⟩) w ∧ NoOwn (H.push ⟨cells, false, none⟩) ∧ s.le (s.add H.next (g, d, m)) ∧ Fr H (H.push ⟨cells, false, none⟩) := by
  have hs0 : s H.next = none := (h.fresh _ (Nat.le_refl _)).2
  have hle : s.le (s.add H.next (g, d, m)) := Sig.le_add hs0
  have hold : ∀ b, b ≠ H.next → s.add H.next (g, d, m) b = s b := fun b hb => by simp [Sig.add, hb]
  have hno' : NoOwn (H.push ⟨cells, false, none⟩) := by
    intro b k hb
    simp only [Heap.push] at hb
    split at hb
    · obtain rfl := Option.some.inj hb; rfl
    · exact hno b k hb
  refine ⟨⟨?_, ?_, ?_, ?_, h.basew⟩, hno', hle, (Fr.refl H).push _⟩
  · intro b k hb
    simp only [Heap.push] at hb
    split at hb
    · rename_i e1; subst e1
      obtain rfl := Option.some.inj hb
      refine ⟨g, d, m, c, e, fr, by simp [Sig.add], hg, fun j v hj => ?_, (fun ho => by cases ho), hm⟩
      obtain ⟨v', h1, h2⟩ := hc j v hj
      exact ⟨v', h1, h2.mono hle⟩
    · rename_i hne
      obtain ⟨g', d', m', c', e', fr', h1, h2, h3, h4⟩ := h.live b k hb
      refine ⟨g', d', m', c', e', fr', by rw [hold b hne]; exact h1, h2, fun j v hj => ?_, h4⟩
      obtain ⟨v', h5, h6⟩ := h3 j v hj
      exact ⟨v', h5, h6.mono hle⟩
  · intro b k b' k' hne hb ho
    have := hno' b k hb; rw [this] at ho; cases ho
  · intro b hb
    simp only [Heap.push] at hb ⊢
    have h1 := h.fresh b (by omega)
    rw [if_neg (by omega), hold b (by omega)]
    exact h1
  · intro g' hg'
    obtain ⟨m', this⟩ := h.glob g' hg'
    rw [hold g' (by intro e1; subst e1; rw [hs0] at this; cases this)]
    exact ⟨m', this⟩
/-- The opening of some cells. -/
def Opn (P : Program) (base nG : Nat) (w : World) (s : Sig) (H : Heap) (n : Nat) (t : TypeId) (cs : List Value) : Prop :=
  ∃ s' H' acs, HRel base nG s' H' w ∧ NoOwn H' ∧ s.le s' ∧ Fr H H' ∧ All2 (LRel s') acs cs ∧ RdA P H' n t acs
theorem All2.length_eq {α β : Type} {R : α → β → Prop} {xs : List α} {ys : List β} (h : All2 R xs ys) : xs.length = ys.length := h.1
theorem flat_len {sz K : Nat} {cells : Nat → List Value} (hl : ∀ i, i < K → (cells i).length = sz) : ∀ k, k ≤ K → ((List.range k).flatMap cells).length = k * sz
  | 0, _ => by simp
  | k + 1, hk => by
    rw [List.range_succ, List.flatMap_append, List.length_append, flat_len hl k (by omega), Nat.add_mul]
    simp [hl k (by omega)]
theorem flat_get {sz K : Nat} {cells : Nat → List Value} (hl : ∀ i, i < K → (cells i).length = sz) : ∀ k, k ≤ K → ∀ i, i < k → ∀ j, j < sz → ((List.range k).flatMap cells)[i * sz + j]? = (cells i)[j]?
  | 0, _, i, hi, _, _ => absurd hi (Nat.not_lt_zero i)
  | k + 1, hk, i, hi, j, hj => by
    rw [List.range_succ, List.flatMap_append, List.getElem?_append, flat_len hl k (by omega)]
    by_cases hik : i = k
    · subst hik
      rw [if_neg (by omega)]
      simp only [List.flatMap_cons, List.flatMap_nil, List.append_nil]
      congr 1; omega
    · have hle : (i + 1) * sz ≤ k * sz := Nat.mul_le_mul_right _ (by omega)
      rw [Nat.add_mul, Nat.one_mul] at hle
      rw [if_pos (by omega)]
      exact flat_get hl k (by omega) i (by omega) j hj
/-- Elements, one behind the other. -/
theorem openMany {P : Program} {n K : Nat} {e : TypeId} {sz : Nat} (cells : Nat → List Value) (ih : ∀ i, i < K → ∀ (s : Sig) (H : Heap), HRel base nG s H w → NoOwn H → Opn P base nG w s H n e (cells i)) (hl : ∀ i, i < K → (cells i).length = sz) :
    ∀ (k : Nat), k ≤ K → ∀ (s : Sig) (H : Heap), HRel base nG s H w → NoOwn H → ∃ s' H' acs, HRel base nG s' H' w ∧ NoOwn H' ∧ s.le s' ∧ Fr H H' ∧ All2 (LRel s') acs ((List.range k).flatMap cells) ∧ ∀ i, i < k → RdA P H' n e ((acs.drop (i * sz)).take sz)
  | 0, _, s, H, h, hno => ⟨s, H, [], h, hno, s.le_refl, Fr.refl H, .nil, fun i hi => absurd hi (Nat.not_lt_zero i)⟩
  | k + 1, hk, s, H, h, hno => by
    obtain ⟨s1, H1, acs, h1, h2, h3, h4, h5, h6⟩ := openMany cells ih hl k (by omega) s H h hno
    obtain ⟨s2, H2, bcs, g1, g2, g3, g4, g5, g6⟩ := ih k (by omega) s1 H1 h1 h2
    have hA : acs.length = k * sz := by rw [h5.1, flat_len hl k (by omega)]
    have hB : bcs.length = sz := by rw [g5.1, hl k (by omega)]
    refine ⟨s2, H2, acs ++ bcs, g1, g2, Sig.le_trans h3 g3, h4.trans g4, ?_, fun i hi => ?_⟩
    · rw [List.range_succ, List.flatMap_append]
      simp only [List.flatMap_cons, List.flatMap_nil, List.append_nil]
      exact (h5.imp fun _ _ r => r.mono g3).append g5
    · by_cases hik : i = k
      · subst hik
        rw [List.drop_append_of_le_length (by omega), List.drop_eq_nil_of_le (by omega), List.nil_append, List.take_of_length_le (by omega)]
        exact g6
      · have hle : (i + 1) * sz ≤ k * sz := Nat.mul_le_mul_right _ (by omega)
        rw [Nat.add_mul, Nat.one_mul] at hle
        rw [List.drop_append_of_le_length (by omega), List.take_append_of_le_length (by simp; omega)]
        exact RdA.fr g4 n _ _ (h6 i (by omega))
theorem openFields {P : Program} {n tot : Nat} {cs : List Value} (hcs : cs.length = tot) : ∀ (l : List Field) (o : Nat), tileB P l o tot = true →
    (∀ f ∈ l, ∀ (s : Sig) (H : Heap), HRel base nG s H w → NoOwn H → Opn P base nG w s H n f.type ((cs.drop f.offset).take (P.cellsOf f.type))) →
    (∀ f ∈ l, f.offset + P.cellsOf f.type ≤ tot) →
    ∀ (s : Sig) (H : Heap), HRel base nG s H w → NoOwn H → ∃ s' H' acs, HRel base nG s' H' w ∧ NoOwn H' ∧ s.le s' ∧ Fr H H' ∧ All2 (LRel s') acs (cs.drop o) ∧ ∀ f ∈ l, o ≤ f.offset ∧ RdA P H' n f.type ((acs.drop (f.offset - o)).take (P.cellsOf f.type))
  | [], o, ht, _, _, s, H, h, hno => by
    simp only [tileB, beq_iff_eq] at ht
    exact ⟨s, H, [], h, hno, s.le_refl, Fr.refl H, by rw [List.drop_eq_nil_of_le (by omega)]; exact .nil, fun f hf => by simp at hf⟩
  | f :: r, o, ht, ih, hle, s, H, h, hno => by
    simp only [tileB, Bool.and_eq_true, beq_iff_eq] at ht
    obtain ⟨ht1, ht2⟩ := ht
    obtain ⟨s1, H1, acs, h1, h2, h3, h4, h5, h6⟩ := ih f (by simp) s H h hno
    obtain ⟨s2, H2, bcs, g1, g2, g3, g4, g5, g6⟩ := openFields hcs r _ ht2 (fun f hf => ih f (by simp [hf])) (fun f hf => hle f (by simp [hf])) s1 H1 h1 h2
    have hfl := hle f (by simp)
    have hA : acs.length = P.cellsOf f.type := by rw [h5.1]; simp; omega
    refine ⟨s2, H2, acs ++ bcs, g1, g2, Sig.le_trans h3 g3, h4.trans g4, ?_, fun f' hf' => ?_⟩
    · have e1 : cs.drop o = (cs.drop o).take (P.cellsOf f.type) ++ cs.drop (o + P.cellsOf f.type) := by
        rw [← List.drop_drop, List.take_append_drop]
      rw [e1, ← ht1] at *
      exact (h5.imp fun _ _ r => r.mono g3).append g5
    · rcases List.mem_cons.1 hf' with rfl | hf'
      · refine ⟨by omega, ?_⟩
        rw [ht1, Nat.sub_self, List.drop_zero, List.take_append_of_le_length (by omega), List.take_of_length_le (by omega)]
        exact RdA.fr g4 n _ _ h6
      · obtain ⟨q1, q2⟩ := g6 f' hf'
        refine ⟨by omega, ?_⟩
        have e2 : f'.offset - o = acs.length + (f'.offset - (o + P.cellsOf f.type)) := by omega
        rw [e2, ← List.drop_drop, List.drop_left]
        exact q2
theorem tile_le {P : Program} {tot : Nat} : ∀ (l : List Field) (o : Nat), tileB P l o tot = true → o ≤ tot ∧ ∀ f ∈ l, f.offset + P.cellsOf f.type ≤ tot
  | [], o, h => by simp only [tileB, beq_iff_eq] at h; exact ⟨by omega, fun f hf => by simp at hf⟩
  | f :: r, o, h => by
    simp only [tileB, Bool.and_eq_true, beq_iff_eq] at h
    obtain ⟨h1, h2⟩ := tile_le r _ h.2
    refine ⟨by omega, fun f' hf' => ?_⟩
    rcases List.mem_cons.1 hf' with rfl | hf'
    · omega
    · exact h2 f' hf'
theorem weightsAll_mem {P : Program} {X : Type} {e : TypeId} : ∀ {l : List (DataW X)} {d : DataW X}, d ∈ l → ∀ z ∈ d.weights P e, z ∈ DataW.weightsAll P e l
  | [], _, h, _, _ => by cases h
  | a :: l, d, h, z, hz => by
    simp only [DataW.weightsAll, List.mem_append]
    rcases List.mem_cons.1 h with rfl | h
    · exact .inl hz
    · exact .inr (weightsAll_mem h z hz)
theorem weightsEach_mem {P : Program} {X : Type} : ∀ {ts : List TypeId} {l : List (DataW X)} {i : Nat} {t : TypeId} {d : DataW X}, ts[i]? = some t → l[i]? = some d → ∀ z ∈ d.weights P t, z ∈ DataW.weightsEach P ts l
  | [], _, i, t, d, h, _, z, _ => by simp at h
  | _ :: _, [], i, t, d, _, h, z, _ => by simp at h
  | t' :: ts, d' :: l, 0, t, d, h1, h2, z, hz => by
    simp only [List.getElem?_cons_zero, Option.some.injEq] at h1 h2; subst h1; subst h2
    simp only [DataW.weightsEach, List.mem_append]; exact .inl hz
  | t' :: ts, d' :: l, i + 1, t, d, h1, h2, z, hz => by
    simp only [List.getElem?_cons_succ] at h1 h2
    simp only [DataW.weightsEach, List.mem_append]; exact .inr (weightsEach_mem h1 h2 z hz)
theorem openA {P : Program} {X : Type} {enc : TypeId × Value → X} {held : Bool} : ∀ (n f : Nat) (t : TypeId) (cs : List Value) (x : DataW X × List MemPlace), supp P n t = true → (∀ z ∈ x.1.weights P t, z ≤ reachBytes) → DataW.trod enc P w 0 (fun _ => true) held f t cs = some x →
    cs.length = P.cellsOf t ∧ ∀ (s : Sig) (H : Heap), HRel base nG s H w → NoOwn H → Opn P base nG w s H n t cs
  | 0, _, _, _, _, hs, _, _ => by simp [supp] at hs
  | n + 1, f, t, cs, x, hs, hwt, hx => by
    have leaf : ∀ (v : Value), cs = [v] → plainL v = true → RdA P ⟨fun _ => none, 0⟩ (n + 1) t [v] → (∀ H, RdA P H (n + 1) t [v]) → ∀ (s : Sig) (H : Heap), HRel base nG s H w → NoOwn H → Opn P base nG w s H (n + 1) t cs := by
      rintro v rfl hp _ hr s H h hno
      exact ⟨s, H, [v], h, hno, s.le_refl, Fr.refl H, .cons (.base (.plain v hp)) .nil, hr H⟩
    simp only [supp] at hs
    split at hs
    · rename_i hu
      have hs : P.cellsOf t = 1 := by simpa using hs
      obtain ⟨b, rfl, _⟩ := DataW.trod_bool hu hx
      have hr : ∀ H, RdA P H (n + 1) t [.bool b] := fun H => by unfold RdA; rw [hu]; exact ⟨b, rfl⟩
      exact ⟨hs.symm, leaf _ rfl rfl (hr _) hr⟩
    · rename_i k hu
      have hs : P.cellsOf t = 1 := by simpa using hs
      obtain ⟨m, rfl, _, hw⟩ := DataW.trod_int hu hx
      have hw : k.min ≤ m ∧ m ≤ k.max := by simpa [Lit.wf] using hw
      have hr : ∀ H, RdA P H (n + 1) t [.int k m] := fun H => by unfold RdA; rw [hu]; exact ⟨m, rfl, hw.1, hw.2⟩
      exact ⟨hs.symm, leaf _ rfl rfl (hr _) hr⟩
    · rename_i hu
      have hs : P.cellsOf t = 1 := by simpa using hs
      obtain ⟨b, rfl, ex, _⟩ := DataW.trod_string hu hx
      have hb : b.size ≤ reachBytes := by
        have := hwt b.data.toList.length (by rw [ex]; simp [DataW.weights])
        simpa using this
      have hr : ∀ H, RdA P H (n + 1) t [.string b] := fun H => by unfold RdA; rw [hu]; exact ⟨b, rfl, hb⟩
      exact ⟨hs.symm, leaf _ rfl rfl (hr _) hr⟩
    · rename_i e hu
      simp only [Bool.and_eq_true, beq_iff_eq, decide_eq_true_eq] at hs
      obtain ⟨⟨⟨hs1, hs2⟩, hs3⟩, hs4⟩ := hs
      rcases DataW.trod_slice hu hx with ⟨rfl, _⟩ | ⟨a, len, cap, elems, rest, m, rfl, rfl, rfl, _, hle, hmax, hlen, hel, hsp, _⟩
      · have hr : ∀ H, RdA P H (n + 1) t [.slice none 0 0] := fun H => by unfold RdA; rw [hu]; exact .inl rfl
        exact ⟨hs1.symm, leaf _ rfl rfl (hr _) hr⟩
      · refine ⟨hs1.symm, fun s H h hno => ?_⟩
        obtain ⟨hrl, hr⟩ := hsp rfl
        by_cases hc : cap = 0
        · subst hc
          have : len = 0 := by omega
          subst this
          refine ⟨s, H, [.slice (some ⟨0, 0, none⟩) 0 (P.cellsOf e)], h, hno, s.le_refl, Fr.refl H, .cons (.base (.slice0 _ _ _ (.inl (by omega)))) .nil, ?_⟩
          unfold RdA; rw [hu]; exact .inr (.inl ⟨0, 0, rfl⟩)
        · have hwe : ∀ y ∈ elems ++ rest, ∀ z ∈ y.1.weights P e, z ≤ reachBytes := by
            intro y hy z hz
            refine hwt z ?_
            simp only [DataW.weights, hu, List.mem_cons, List.mem_append]
            right
            rcases List.mem_append.1 hy with hy | hy
            · exact .inl (weightsAll_mem (List.mem_map.2 ⟨y, hy, rfl⟩) z hz)
            · exact .inr (weightsAll_mem (List.mem_map.2 ⟨y, hy, rfl⟩) z hz)
          have hget : ∀ i, i < cap → ∃ ccs y, w.cells? 0 (a.add (i * P.cellsOf e)) (P.cellsOf e) = some ccs ∧ DataW.trod enc P w 0 (fun _ => true) held m e ccs = some y ∧ ∀ z ∈ y.1.weights P e, z ≤ reachBytes := by
            intro i hi
            have : ∃ y ∈ elems ++ rest, (w.cells? 0 (a.add (i * P.cellsOf e)) (P.cellsOf e)).bind (DataW.trod enc P w 0 (fun _ => true) held m e) = some y := by
              by_cases hil : i < len
              · rw [hel i hil, List.getElem?_eq_getElem (by omega)]; exact ⟨_, List.mem_append_left _ (List.getElem_mem _), rfl⟩
              · have := hr (i - len) (by omega)
                rw [show len + (i - len) = i from by omega] at this
                rw [this, List.getElem?_eq_getElem (by omega)]; exact ⟨_, List.mem_append_right _ (List.getElem_mem _), rfl⟩
            obtain ⟨y, hym, hy⟩ := this
            rw [Option.bind_eq_some_iff] at hy
            obtain ⟨ccs, h1, h2⟩ := hy
            exact ⟨ccs, y, h1, h2, hwe y hym⟩
          let cells : Nat → List Value := fun i => ((w.cells? 0 (a.add (i * P.cellsOf e)) (P.cellsOf e)).getD [])
          have hcells : ∀ i, i < cap → w.cells? 0 (a.add (i * P.cellsOf e)) (P.cellsOf e) = some (cells i) := by
            intro i hi
            obtain ⟨ccs, y, h1, _, _⟩ := hget i hi
            simp only [cells, h1, Option.getD_some]
          have hl : ∀ i, i < cap → (cells i).length = P.cellsOf e := fun i hi => (cells_get (hcells i hi)).1
          obtain ⟨s1, H1, acs, h1, h2, h3, h4, h5, h6⟩ := openMany (base := base) (nG := nG) (K := cap) (sz := P.cellsOf e) cells (fun i hi => by
            obtain ⟨ccs, y, g1, g2, g3⟩ := hget i hi
            rw [hcells i hi] at g1
            obtain rfl := Option.some.inj g1
            exact (openA n m e _ y hs2 g3 g2).2) hl cap (Nat.le_refl _) s H h hno
          have hat : ∀ i, i < cap → ∀ j, j < P.cellsOf e → w.cell? (a.add (i * P.cellsOf e + j)) = (cells i)[j]? := by
            intro i hi j hj
            rw [← (cells_get (hcells i hi)).2 j hj]
            rw [add_add']
          have h0 := hat 0 (by omega) 0 hs3
          rw [show 0 * P.cellsOf e + 0 = 0 from by omega, Addr.add_zero'] at h0
          rw [List.getElem?_eq_getElem (by rw [hl 0 (by omega)]; exact hs3)] at h0
          obtain ⟨hspot, c, ty, fr, hb, _⟩ := cell_block h0
          have hb : w.heap[a.block]? = some (.cells c ty fr) := hb
          have hspot : a.spot = none := hspot
          have hcell : ∀ q, q < cap * P.cellsOf e → ∃ v, c[a.off + q]? = some v ∧ ((List.range cap).flatMap cells)[q]? = some v := by
            intro q hq
            have hi : q / P.cellsOf e < cap := (Nat.div_lt_iff_lt_mul hs3).2 hq
            have hj : q % P.cellsOf e < P.cellsOf e := Nat.mod_lt _ hs3
            have hq' : q / P.cellsOf e * P.cellsOf e + q % P.cellsOf e = q := by rw [Nat.mul_comm]; exact Nat.div_add_mod q _
            have g1 := hat _ hi _ hj
            rw [hq', List.getElem?_eq_getElem (by rw [hl _ hi]; exact hj)] at g1
            obtain ⟨_, c', ty', fr', g2, g3⟩ := cell_block g1
            rw [add_blk, hb] at g2
            cases g2
            rw [add_off] at g3
            refine ⟨_, g3, ?_⟩
            have g4 := flat_get hl cap (Nat.le_refl _) _ hi _ hj
            rw [hq'] at g4
            rw [g4, List.getElem?_eq_getElem]
          have hcl : 0 < cap * P.cellsOf e := Nat.mul_pos (by omega) hs3
          have hsize : a.off + cap * P.cellsOf e ≤ c.size := by
            obtain ⟨v, g1, _⟩ := hcell (cap * P.cellsOf e - 1) (by omega)
            have := (Array.getElem?_eq_some_iff.1 g1).1
            omega
          have hal : acs.length = cap * P.cellsOf e := by rw [h5.1, flat_len hl cap (Nat.le_refl _)]
          obtain ⟨q1, q2, q3, q4⟩ := HRel.pushR h1 h2 acs (g := a.block) (d := a.off) (m := cap * P.cellsOf e) hb hsize (fun j v hj => by
            have hjl : j < acs.length := (List.getElem?_eq_some_iff.1 hj).1
            obtain ⟨v', g1, g2⟩ := hcell j (by omega)
            exact ⟨v', g1, h5.2 j v v' hj g2⟩)
          refine ⟨_, _, [.slice (some ⟨H1.next, 0, none⟩) len (P.cellsOf e)], q1, q2, Sig.le_trans h3 q3, h4.trans q4, .cons (.base ?_) .nil, ?_⟩
          · have := PRel.slice (s := s1.add H1.next (a.block, a.off, cap * P.cellsOf e)) H1.next a.block a.off (cap * P.cellsOf e) 0 len (P.cellsOf e) cap (by simp [Sig.add]) hle (.inl (by omega)) (by rw [Nat.mod_eq_of_lt hs4]; omega)
            rw [Nat.zero_add] at this
            have ea : a = ⟨a.block, a.off, none⟩ := by cases a; simp_all
            rw [← ea] at this; exact this
          · unfold RdA; rw [hu]
            refine .inr (.inr ⟨H1.next, _, len, rfl, Nat.lt_succ_self _, push_self, ?_, ?_, fun i hi => RdA.fr q4 n _ _ (h6 i (by omega))⟩)
            · simp only [hal]; exact Nat.mul_le_mul_right _ hle
            · have := hwt ((elems.length + rest.length) * P.bytesOf e) (by simp only [DataW.weights, hu, List.length_map]; simp)
              exact Nat.le_trans (Nat.mul_le_mul_right _ (by omega)) this
    · rename_i fs hu
      simp only [Bool.and_eq_true] at hs
      obtain ⟨hs1, hs2⟩ := hs
      obtain ⟨xs, m, rfl, ex, hl, hxl, hel⟩ := DataW.trod_struct hu hx
      obtain ⟨_, hle⟩ := tile_le _ _ hs2
      refine ⟨hl, fun s H h hno => ?_⟩
      obtain ⟨s1, H1, acs, h1, h2, h3, h4, h5, h6⟩ := openFields (n := n) hl fs.toList 0 hs2 (fun f hf => by
        obtain ⟨i, hi⟩ := List.mem_iff_getElem?.1 hf
        have hi' : i < xs.length := by rw [hxl]; simpa using (List.getElem?_eq_some_iff.1 hi).1
        have := hel i f (by simpa using hi)
        rw [List.getElem?_eq_getElem hi'] at this
        refine (openA n m f.type _ _ (List.all_eq_true.1 hs1 f hf) (fun z hz => hwt z (by
          rw [ex]; simp only [DataW.weights, hu]
          exact weightsEach_mem (i := i) (t := f.type) (d := xs[i].1) (by rw [List.getElem?_map, hi]; rfl) (by rw [List.getElem?_map, List.getElem?_eq_getElem hi']; rfl) z hz)) this).2) hle s H h hno
      refine ⟨s1, H1, acs, h1, h2, h3, h4, by simpa using h5, ?_⟩
      unfold RdA; rw [hu]
      refine ⟨by have := h5.1; simpa [hl] using this, fun f hf => by simpa using (h6 f hf).2⟩
    · rename_i k e hu
      simp only [Bool.and_eq_true, beq_iff_eq] at hs
      obtain ⟨hs1, hs2⟩ := hs
      obtain ⟨xs, m, rfl, ex, hl, hxl, hel⟩ := DataW.trod_array hu hx
      refine ⟨hl, fun s H h hno => ?_⟩
      have hl' : ∀ i, i < k → ((cs.drop (i * P.cellsOf e)).take (P.cellsOf e)).length = P.cellsOf e := by
        intro i hi
        have : (i + 1) * P.cellsOf e ≤ k * P.cellsOf e := Nat.mul_le_mul_right _ hi
        rw [Nat.add_mul, Nat.one_mul] at this
        simp; omega
      obtain ⟨s1, H1, acs, h1, h2, h3, h4, h5, h6⟩ := openMany (base := base) (nG := nG) (K := k) (sz := P.cellsOf e) (fun i => (cs.drop (i * P.cellsOf e)).take (P.cellsOf e)) (fun i hi => by
        have := hel i hi
        rw [List.getElem?_eq_getElem (by omega)] at this
        refine (openA n m e _ _ hs1 (fun z hz => hwt z (by
          rw [ex]; simp only [DataW.weights, hu]
          exact weightsAll_mem (List.mem_map.2 ⟨_, List.getElem_mem _, rfl⟩) z hz)) this).2) hl' k (Nat.le_refl _) s H h hno
      have e1 : (List.range k).flatMap (fun i => (cs.drop (i * P.cellsOf e)).take (P.cellsOf e)) = cs := by
        apply List.ext_getElem?
        intro q
        by_cases hq : q < k * P.cellsOf e
        · have hpos : 0 < P.cellsOf e := by
            rcases Nat.eq_zero_or_pos (P.cellsOf e) with h0 | h0
            · rw [h0] at hq; omega
            · exact h0
          have hi : q / P.cellsOf e < k := (Nat.div_lt_iff_lt_mul hpos).2 hq
          have hj : q % P.cellsOf e < P.cellsOf e := Nat.mod_lt _ hpos
          have hq' : q / P.cellsOf e * P.cellsOf e + q % P.cellsOf e = q := by rw [Nat.mul_comm]; exact Nat.div_add_mod q _
          have g4 := flat_get hl' k (Nat.le_refl _) _ hi _ hj
          rw [hq'] at g4
          rw [g4, List.getElem?_take, if_pos hj, List.getElem?_drop, hq']
        · rw [List.getElem?_eq_none (by rw [flat_len hl' k (Nat.le_refl _)]; omega), List.getElem?_eq_none (by omega)]
      rw [e1] at h5
      refine ⟨s1, H1, acs, h1, h2, h3, h4, h5, ?_⟩
      unfold RdA; rw [hu]
      exact ⟨by rw [h5.1, hl], h6⟩
    · simp at hs
end
end Go.Ab

namespace Go.Ab
open Go

section
variable {base nG : Nat} {s : Sig} {H : Heap} {w : World} {P : Program} {X : Type} {enc : TypeId × Value → X} {held : Bool}
def ShV (P : Program) (t : TypeId) (va : Value) : Prop := match P.underlying t with
  | some (.struct _) => ∃ l, va = .agg ⟨l⟩
  | some (.array _ _) => ∃ l, va = .agg ⟨l⟩
  | _ => cellsV va = [va]
theorem openV {n : Nat} {r : Reach} {b : Nat} {t : TypeId} {v : Value} {d : DataW X} {ps : List MemPlace} (hs : supp P n t = true) (hok : Value.okWide P w r b t v) (hwt : ∀ z ∈ d.weights P t, z ≤ reachBytes) (hx : DataW.Trod enc P w 0 (fun _ => true) held t v d ps) (h : HRel base nG s H w) (hno : NoOwn H) :
    ∃ s' H' va, HRel base nG s' H' w ∧ NoOwn H' ∧ s.le s' ∧ Fr H H' ∧ VRel s' va v ∧ RdA P H' n t (cellsV va) ∧ ShV P t va := by
  obtain ⟨fuel, hx⟩ := hx
  obtain ⟨hl, hO⟩ := openA (base := base) (nG := nG) n fuel t _ (d, ps) hs hwt hx
  obtain ⟨s1, H1, acs, h1, h2, h3, h4, h5, h6⟩ := hO s H h hno
  have one : (∀ va, cellsV va = [va] → ShV P t va) → ∀ u, v.cells.toList = [u] → v = u → (∀ u', LRel s1 u' u → VRel s1 u' v ∧ cellsV u' = [u']) → ∃ s' H' va, HRel base nG s' H' w ∧ NoOwn H' ∧ s.le s' ∧ Fr H H' ∧ VRel s' va v ∧ RdA P H' n t (cellsV va) ∧ ShV P t va := by
    intro hsh u hu _ hk
    rw [hu] at h5
    obtain ⟨u', rfl⟩ : ∃ u', acs = [u'] := by
      match acs, h5.1 with
      | [u'], _ => exact ⟨u', rfl⟩
    obtain ⟨g1, g2⟩ := hk u' (h5.2 0 u' u rfl rfl)
    exact ⟨s1, H1, u', h1, h2, h3, h4, g1, by rw [g2]; exact h6, hsh u' g2⟩
  have agg : (∀ l, ShV P t (.agg ⟨l⟩)) → ∀ cs : Array Value, v = .agg cs → ∃ s' H' va, HRel base nG s' H' w ∧ NoOwn H' ∧ s.le s' ∧ Fr H H' ∧ VRel s' va v ∧ RdA P H' n t (cellsV va) ∧ ShV P t va := by
    rintro hsh ⟨cs⟩ rfl
    exact ⟨s1, H1, .agg acs.toArray, h1, h2, h3, h4, .one (.agg acs cs h5), h6, hsh _⟩
  cases n with
  | zero => simp [supp] at hs
  | succ n =>
    simp only [supp] at hs
    split at hs
    · rename_i hu
      obtain ⟨b, rfl⟩ := WideShapes.okWide_bool hu hok
      refine one (fun va h => by unfold ShV; rw [hu]; exact h) (.bool b) rfl rfl (fun u' hr => ⟨.one (.one hr), ?_⟩)
      have := vrel_bool_inv (.one (.one hr)); subst this; rfl
    · rename_i k hu
      obtain ⟨x, rfl⟩ := WideShapes.okWide_int hu hok
      refine one (fun va h => by unfold ShV; rw [hu]; exact h) (.int k x) rfl rfl (fun u' hr => ⟨.one (.one hr), ?_⟩)
      cases hr with | base hr => cases hr; rfl
    · rename_i hu
      obtain ⟨x, rfl⟩ := WideShapes.okWide_string hu hok
      refine one (fun va h => by unfold ShV; rw [hu]; exact h) (.string x) rfl rfl (fun u' hr => ⟨.one (.one hr), ?_⟩)
      cases hr with | base hr => cases hr; rfl
    · rename_i e hu
      obtain ⟨a, len, cap, rfl⟩ := WideShapes.okWide_slice hu hok
      refine one (fun va h => by unfold ShV; rw [hu]; exact h) (.slice a len cap) rfl rfl (fun u' hr => ⟨.one (.one hr), ?_⟩)
      cases hr with | base hr => cases hr <;> rfl
    · rename_i fs hu
      obtain ⟨cs, rfl, _⟩ := WideShapes.okWide_struct hu hok
      exact agg (fun l => by unfold ShV; rw [hu]; exact ⟨l, rfl⟩) cs rfl
    · rename_i k e hu
      simp only [Value.okWide, hu] at hok
      obtain ⟨cs, rfl, _⟩ := hok
      exact agg (fun l => by unfold ShV; rw [hu]; exact ⟨l, rfl⟩) cs rfl
    · simp at hs
def RdL (P : Program) (H : Heap) (n : Nat) : List TypeId → List Value → Prop
  | [], [] => True
  | t :: ts, v :: vs => RdA P H n t (cellsV v) ∧ ShV P t v ∧ RdL P H n ts vs
  | _, _ => False
theorem RdL.cons {n : Nat} {t : TypeId} {ts : List TypeId} {vs : List Value} (h : RdL P H n (t :: ts) vs) : ∃ v vs', vs = v :: vs' ∧ RdA P H n t (cellsV v) ∧ ShV P t v ∧ RdL P H n ts vs' := by
  cases vs with
  | nil => exact h.elim
  | cons v vs => exact ⟨v, vs, rfl, h⟩
theorem RdL.nil {n : Nat} {vs : List Value} (h : RdL P H n [] vs) : vs = [] := by
  cases vs with
  | nil => rfl
  | cons v vs => exact h.elim
theorem openAll {n : Nat} {r : Reach} {b : Nat} : ∀ (ts : List TypeId) (vs : List Value) (ds : List (DataW X)) (ps : List MemPlace) (s : Sig) (H : Heap), ts.all (supp P n) = true → (∀ (j : Nat) t v, ts[j]? = some t → vs[j]? = some v → Value.okWide P w r b t v) → (∀ z ∈ DataW.weightsEach P ts ds, z ≤ reachBytes) →
    DataW.TrodAll enc P w 0 (fun _ => true) held ts vs ds ps → HRel base nG s H w → NoOwn H → ∃ s' H' vas, HRel base nG s' H' w ∧ NoOwn H' ∧ s.le s' ∧ Fr H H' ∧ All2 (VRel s') vas vs ∧ RdL P H' n ts vas
  | [], vs, ds, ps, s, H, _, _, _, hA, h, hno => by
    obtain ⟨rfl, _, _⟩ := ChangeShapes.trodAll_nil hA
    exact ⟨s, H, [], h, hno, s.le_refl, Fr.refl H, .nil, trivial⟩
  | t :: ts, vs, ds, ps, s, H, hs, hok, hwt, hA, h, hno => by
    obtain ⟨v, vs', d, ds', p, q, rfl, rfl, rfl, h1, h2⟩ := ChangeShapes.trodAll_cons hA
    simp only [List.all_cons, Bool.and_eq_true] at hs
    obtain ⟨s1, H1, va, g1, g2, g3, g4, g5, g6, g7⟩ := openV hs.1 (hok 0 t v rfl rfl) (fun z hz => hwt z (by simp only [DataW.weightsEach, List.mem_append]; exact .inl hz)) h1 h hno
    obtain ⟨s2, H2, vas, k1, k2, k3, k4, k5, k6⟩ := openAll ts vs' ds' q s1 H1 hs.2 (fun j t' v' ht hv => hok (j + 1) t' v' (by simpa using ht) (by simpa using hv)) (fun z hz => hwt z (by simp only [DataW.weightsEach, List.mem_append]; exact .inr hz)) h2 g1 g2
    exact ⟨s2, H2, va :: vas, k1, k2, Sig.le_trans g3 k3, g4.trans k4, .cons (g5.mono k3) k5, RdA.fr k4 _ _ _ g6, g7, k6⟩
/-- Where one begins: the program's variables, some of them with what they hold. -/
def sig0 (nG : Nat) (w : World) : Sig := fun g => if g < nG then some (g, 0, match w.heap[g]? with | some (.cells c _ _) => c.size | _ => 0) else none
def heap0 (nG : Nat) (G : Nat → Option (List Value)) : Heap := ⟨fun g => if g < nG then (G g).map fun cs => ⟨cs, false, none⟩ else none, nG⟩
theorem hrel0 {G : Nat → Option (List Value)} (hG : ∀ g cs, G g = some cs → ∃ c e fr, w.heap[g]? = some (.cells c e fr) ∧ ∀ (j : Nat) v, cs[j]? = some v → c[j]? = some v ∧ plainL v = true) (hb : base ≤ w.heap.size) :
    HRel base nG (sig0 nG w) (heap0 nG G) w ∧ NoOwn (heap0 nG G) := by
  have hno : NoOwn (heap0 nG G) := by
    intro b k hb
    simp only [heap0] at hb
    split at hb
    · simp only [Option.map_eq_some_iff] at hb
      obtain ⟨cs, _, rfl⟩ := hb; rfl
    · cases hb
  refine ⟨⟨fun b k hk => ?_, (fun b k b' k' _ hb ho => by rw [hno b k hb] at ho; cases ho), fun b hb => ?_, fun g hg => ⟨_, by simp only [sig0]; rw [if_pos hg]⟩, hb⟩, hno⟩
  · simp only [heap0] at hk
    split at hk
    · rename_i hlt
      simp only [Option.map_eq_some_iff] at hk
      obtain ⟨cs, h1, rfl⟩ := hk
      obtain ⟨c, e, fr, h2, h3⟩ := hG b cs h1
      refine ⟨b, 0, c.size, c, e, fr, by simp only [sig0]; rw [if_pos hlt, h2], h2, fun j v hj => ⟨v, by simpa using (h3 j v hj).1, .base (.plain v (h3 j v hj).2)⟩, (fun ho => by cases ho), by omega⟩
    · cases hk
  · simp only [heap0, sig0] at hb ⊢
    rw [if_neg (by omega), if_neg (by omega)]; exact ⟨rfl, rfl⟩
/-- A law's walk, out of its contract. -/
theorem law_calls {n : Nat} {f : FuncId} {ts : List TypeId} {args : Array Value} {ds : List (DataW X)} {ps : List MemPlace} {r : Reach} {b : Nat} {G : Nat → Option (List Value)}
    (hG : ∀ g cs, G g = some cs → ∃ c e fr, w.heap[g]? = some (.cells c e fr) ∧ ∀ (j : Nat) v, cs[j]? = some v → c[j]? = some v ∧ plainL v = true)
    (hs : ts.all (supp P n) = true) (hok : ∀ (j : Nat) t v, ts[j]? = some t → args[j]? = some v → Value.okWide P w r b t v) (hwt : ∀ z ∈ DataW.weightsEach P ts ds, z ≤ reachBytes) (hA : DataW.TrodAll enc P w 0 (fun _ => true) held ts args.toList ds ps)
    (law : ∀ H vas, Fr (heap0 P.globals.size G) H → RdL P H n ts vas → ACall P f vas H (fun en _ => en = .ret (.bool true))) :
    Calls P f args w fun e w' => e = .returned (.bool true) ∧ RowKit.Below w.heap.size w w' := by
  obtain ⟨h0, hno⟩ := hrel0 (nG := P.globals.size) (base := w.heap.size) hG (Nat.le_refl _)
  obtain ⟨s1, H1, vas, h1, _, _, h4, h5, h6⟩ := openAll ts args.toList ds ps _ _ hs (fun j t v ht hv => hok j t v ht (by simpa using hv)) hwt hA h0 hno
  have h := (law H1 vas h4 h6).all w.heap.size s1 w args.toList h1 h5
  have e1 : args.toList.toArray = args := by simp
  rw [e1] at h
  refine h.mono ?_
  rintro e w' ⟨s', H', a, b, ⟨v, v', rfl, e', q⟩ | ⟨v, rfl, e', q⟩⟩
  · cases q
    have : v' = .bool true := vrel_plain e' rfl
    subst this
    exact ⟨rfl, b.below h1⟩
  · cases q
theorem below_trodAll {W W' : World} (hl : laidOutB P = true) (hb : RowKit.Below W.heap.size W W') : ∀ {ts : List TypeId} {vs : List Value} {ds : List (DataW X)} {ps : List MemPlace}, ts.all (fun t => P.readableRec t && decide (t < P.types.size)) = true →
    DataW.TrodAll enc P W 0 (fun _ => true) true ts vs ds ps → DataW.TrodAll enc P W' 0 (fun b => decide (b < W.heap.size)) true ts vs ds ps
  | [], vs, ds, ps, _, h => by
    obtain ⟨rfl, rfl, rfl⟩ := ChangeShapes.trodAll_nil h
    exact rfl
  | t :: ts, vs, ds, ps, hr, h => by
    obtain ⟨v, vs', d, ds', p, q, rfl, rfl, rfl, h1, h2⟩ := ChangeShapes.trodAll_cons h
    simp only [List.all_cons, Bool.and_eq_true, decide_eq_true_eq] at hr
    have lt : ∀ x ∈ p, x.block < W.heap.size := by obtain ⟨m, hm⟩ := h1; exact DataW.trod_lt m _ _ _ hm
    exact ⟨p, q, RowKit.Below.trod hl hr.1.1 hr.1.2 h1 hb lt, below_trodAll hl hb hr.2 h2, rfl⟩
theorem ints_all (xs : List Int) : intE.all xs = xs.map (Value.int .i64) := by
  induction xs with
  | nil => rfl
  | cons x xs ih => show Value.int .i64 x :: intE.all xs = _; rw [ih]; rfl
/-! What is read, by its type. -/
theorem rd_int {n : Nat} {t : TypeId} {v : Value} {k : IntKind} (hu : P.underlying t = some (.int k)) (h : RdA P H (n + 1) t (cellsV v)) (hv : ShV P t v) : ∃ x, v = .int k x ∧ k.min ≤ x ∧ x ≤ k.max := by
  unfold RdA at h; rw [hu] at h
  unfold ShV at hv; rw [hu] at hv
  obtain ⟨x, h1, h2⟩ := h
  rw [hv] at h1
  simp only [List.cons.injEq, and_true] at h1
  exact ⟨x, h1, h2⟩
theorem rd_ints {n : Nat} {t e : TypeId} (hu : P.underlying t = some (.slice e)) (he : P.underlying e = some (.int .i64)) (hc : P.cellsOf e = 1) {v : Value} (h : RdA P H (n + 2) t (cellsV v)) (hv : ShV P t v) : ∃ xs, IsS intE H v xs ∧ xs.length * P.bytesOf e ≤ reachBytes ∧ ∀ x ∈ xs, -9223372036854775808 ≤ x ∧ x ≤ 9223372036854775807 := by
  unfold RdA at h; rw [hu] at h
  unfold ShV at hv; rw [hu] at hv
  rw [hv] at h
  simp only [List.cons.injEq, and_true] at h
  rcases h with rfl | ⟨b, o, rfl⟩ | ⟨b, k, m, rfl, h1, h2, h3, h4, h5⟩
  · exact ⟨[], .isNil, by simp, by simp⟩
  · exact ⟨[], .isEmpty b o _ (by rw [hc]), by simp, by simp⟩
  · have h4' := h4
    rw [hc] at h3 h5 ⊢
    simp only [Nat.mul_one] at h3 h5
    have h6 : ∀ i, i < m → ∃ x, k.cells[i]? = some (.int .i64 x) ∧ IntKind.min .i64 ≤ x ∧ x ≤ IntKind.max .i64 := by
      intro i hi
      have := h5 i hi
      unfold RdA at this; rw [he] at this
      obtain ⟨x, g1, g2⟩ := this
      refine ⟨x, ?_, g2⟩
      have := congrArg (fun l => l[0]?) g1
      simpa [List.getElem?_take, List.getElem?_drop] using this
    let f : Value → Int := fun v => match v with | .int _ x => x | _ => 0
    have hf : ∀ i, i < m → k.cells[i]? = some (.int .i64 (((k.cells.take m).map f).getD i 0)) ∧ IntKind.min .i64 ≤ ((k.cells.take m).map f).getD i 0 ∧ ((k.cells.take m).map f).getD i 0 ≤ IntKind.max .i64 := by
      intro i hi
      obtain ⟨x, g1, g2⟩ := h6 i hi
      have : ((k.cells.take m).map f).getD i 0 = x := by
        rw [List.getD_eq_getElem?_getD, List.getElem?_map, List.getElem?_take, if_pos hi, g1]; rfl
      rw [this]; exact ⟨g1, g2⟩
    have hlen : ((k.cells.take m).map f).length = m := by simp; omega
    refine ⟨(k.cells.take m).map f, .isSome b 0 1 m k _ hlen.symm rfl h1 h2 ?_, by rw [hlen]; exact h4', ?_⟩
    · rw [hlen]
      simp only [List.drop_zero, Nat.mul_one]
      apply List.ext_getElem?
      intro i
      by_cases hi : i < m
      · rw [List.getElem?_take, if_pos hi, (hf i hi).1]
        have : intE.all ((k.cells.take m).map f) = ((k.cells.take m).map f).map (Value.int .i64) := ints_all _
        rw [this, List.getElem?_map, List.getD_eq_getElem?_getD, List.getElem?_eq_getElem (by omega)]; rfl
      · rw [List.getElem?_eq_none (by simp; omega), List.getElem?_eq_none (by rw [Enc.all_length]; simp at hlen ⊢; omega)]
    · intro x hx
      obtain ⟨i, hi⟩ := List.mem_iff_getElem?.1 hx
      have hil : i < m := by rw [← hlen]; exact (List.getElem?_eq_some_iff.1 hi).1
      have := (hf i hil).2
      rw [List.getD_eq_getElem?_getD, hi] at this
      exact this
end
end Go.Ab

namespace Go.Ab
open Go
/-! The steps once more, of one explicit argument each (printed by short.py). -/
section
variable {P : Program} {Q : Post} {e : Env} {al al' : AL} {H0 H : Heap} {K N : Env → Heap → Prop} {X : Value → Heap → Prop} {os : List AOper} {k a b : ACode} {d : Nat} {L : List Res} {F : Res → List Res}
variable {x y z lo hi : Operand} {u v w : Value} {size : Nat} {α : Type} {T : Enc α} {xs : List α} {k1 k2 : IntKind} {l h : Int}
theorem z0 {ops : List AOper} (q_h : Ops P ops (AW P k Q) (panP Q) e al H)  : Wk P (.reg ops k) Q e al H := k_reg q_h
theorem z1  (q_r : Ops P os K X e ((d, v) :: al) H) (q_hx : evL al x = some v := by exact rfl) : Ops P (A d (.mv x) :: os) K X e al H := p_mv q_hx q_r
theorem z2  (q_h : Cn K e al H)  : Ops P [] K X e al H := o_end q_h
theorem z3  (q_h : Wk P k Q e al H)  : Cn (AW P k Q) e al H := n_W q_h
theorem z4  (q_h : Cn N e al H)  : Pst (thenP N Q) .normal e al H := q_thenN q_h
theorem z5 {i : Nat} (q_h : Pst Q (.exit i) e al H)  : Pst (thenP N Q) (.exit i) e al H := q_thenE q_h
theorem z6  (q_h : Pst Q .ret e al H)  : Pst (thenP N Q) .ret e al H := q_thenR q_h
theorem z7 {i : Nat} (q_h : Pst Q .ret e al H)  : Pst (blkP i N Q) .ret e al H := q_blkR q_h
theorem z8 {i : Nat} (q_h : Cn N e al H)  : Pst (blkP i N Q) .normal e al H := q_blkN q_h
theorem z9 {i : Nat} (q_h : Cn N e al H)  : Pst (blkP i N Q) (.exit i) e al H := q_blkE q_h
theorem z10 {i j : Nat} (q_h : Pst Q (.exit j) e al H) (q_hij : Nat.beq j i = false := by exact rfl) : Pst (blkP i N Q) (.exit j) e al H := q_blkO q_hij q_h
theorem z11  (q_h : Pst Q .normal e al H)  : Wk P .nil Q e al H := k_nil q_h
theorem z12  (q_h : Pst Q .ret e al H)  : Wk P .ret Q e al H := k_ret q_h
theorem z13 {i : Nat} (q_h : Pst Q (.exit i) e al H)  : Wk P (.exit i) Q e al H := k_exit q_h
theorem z14 {i : Nat} (q_h : Wk P b (blkP i (AW P k Q) Q) e al H)  : Wk P (.block i b k) Q e al H := k_block q_h
theorem z15 {l : Nat} (q_h : Wk P k Q e al H)  : Wk P (.label l k) Q e al H := k_label q_h
theorem z16 {c : Operand} (q_h : Wk P a (thenP (AW P k Q) Q) e al H) (q_hc : evL al c = some (.bool true) := by exact rfl) : Wk P (.cond c a b k) Q e al H := k_condT q_hc q_h
theorem z17 {c : Operand} (q_h : Wk P b (thenP (AW P k Q) Q) e al H) (q_hc : evL al c = some (.bool false) := by exact rfl) : Wk P (.cond c a b k) Q e al H := k_condF q_hc q_h
theorem z18 {j : Nat} {w : Bool} {op : AOp} (q_r : Ops P (A d op :: os) K X e al H) (q_hj : lk al j = some (.bool w) := by exact rfl) : Ops P (G d j w op :: os) K X e al H := g_T q_hj q_r
theorem z19 {j : Nat} {w : Bool} {op : AOp} (q_r : Ops P os K X e ((d, undef) :: al) H) (q_hj : lk al j = some (.bool (!w)) := by exact rfl) : Ops P (G d j w op :: os) K X e al H := g_F q_hj q_r
theorem z20 {j : Nat} {w : Bool} {op : AOp} (q_r : Ops P os K X e ((d, undef) :: al) H) (q_hj : lk al j = some undef := by exact rfl) : Ops P (G d j w op :: os) K X e al H := g_U q_hj q_r
theorem z21 {j : Nat} {w : Bool} {op : AOp} (q_r : Ops P (S op :: os) K X e al H) (q_hj : lk al j = some (.bool w) := by exact rfl) : Ops P (GS j w op :: os) K X e al H := gs_T q_hj q_r
theorem z22 {j : Nat} {w : Bool} {op : AOp} (q_r : Ops P os K X e al H) (q_hj : lk al j = some (.bool (!w)) := by exact rfl) : Ops P (GS j w op :: os) K X e al H := gs_F q_hj q_r
theorem z23 {j : Nat} {w : Bool} {op : AOp} (q_r : Ops P os K X e al H) (q_hj : lk al j = some undef := by exact rfl) : Ops P (GS j w op :: os) K X e al H := gs_U q_hj q_r
theorem z24  (q_r : Ops P os K X e ((d, v) :: al) H) (q_hx : evL al x = some (.bool true) := by exact rfl) (q_hy : evL al y = some v := by exact rfl) : Ops P (A d (.pick x y z) :: os) K X e al H := p_pkT q_hx q_hy q_r
theorem z25  (q_r : Ops P os K X e ((d, v) :: al) H) (q_hx : evL al x = some (.bool false) := by exact rfl) (q_hy : evL al z = some v := by exact rfl) : Ops P (A d (.pick x y z) :: os) K X e al H := p_pkF q_hx q_hy q_r
theorem z26 {kd : IntKind} {m n : Int} (q_r : Ops P os K X e ((d, .int kd (m + n)) :: al) H) (q_hx : evL al x = some (.int kd m) := by exact rfl) (q_hy : evL al y = some (.int kd n) := by exact rfl) (q_h : kd.wrap (m + n) = m + n := by exact (wrap64 (by omega) (by omega))) : Ops P (A d (.bin .add x y) :: os) K X e al H := p_add q_hx q_hy q_h q_r
theorem z27 {kd : IntKind} {m n : Int} (q_r : Ops P os K X e ((d, .int kd (m - n)) :: al) H) (q_hx : evL al x = some (.int kd m) := by exact rfl) (q_hy : evL al y = some (.int kd n) := by exact rfl) (q_h : kd.wrap (m - n) = m - n := by exact (wrap64 (by omega) (by omega))) : Ops P (A d (.bin .sub x y) :: os) K X e al H := p_sub q_hx q_hy q_h q_r
theorem z28 {kd : IntKind} {m n : Int} (q_r : Ops P os K X e ((d, .bool (decide (m = n))) :: al) H) (q_hx : evL al x = some (.int kd m) := by exact rfl) (q_hy : evL al y = some (.int kd n) := by exact rfl) : Ops P (A d (.bin .eql x y) :: os) K X e al H := p_eql q_hx q_hy q_r
theorem z29 {kd : IntKind} {m n : Int} (q_r : Ops P os K X e ((d, .bool (decide (¬ (m = n)))) :: al) H) (q_hx : evL al x = some (.int kd m) := by exact rfl) (q_hy : evL al y = some (.int kd n) := by exact rfl) : Ops P (A d (.bin .neq x y) :: os) K X e al H := p_neq q_hx q_hy q_r
theorem z30 {kd : IntKind} {m n : Int} (q_r : Ops P os K X e ((d, .bool (decide (m < n))) :: al) H) (q_hx : evL al x = some (.int kd m) := by exact rfl) (q_hy : evL al y = some (.int kd n) := by exact rfl) : Ops P (A d (.bin .lss x y) :: os) K X e al H := p_lss q_hx q_hy q_r
theorem z31 {kd : IntKind} {m n : Int} (q_r : Ops P os K X e ((d, .bool (decide (m ≤ n))) :: al) H) (q_hx : evL al x = some (.int kd m) := by exact rfl) (q_hy : evL al y = some (.int kd n) := by exact rfl) : Ops P (A d (.bin .leq x y) :: os) K X e al H := p_leq q_hx q_hy q_r
theorem z32 {kd : IntKind} {m n : Int} (q_r : Ops P os K X e ((d, .bool (decide (n < m))) :: al) H) (q_hx : evL al x = some (.int kd m) := by exact rfl) (q_hy : evL al y = some (.int kd n) := by exact rfl) : Ops P (A d (.bin .gtr x y) :: os) K X e al H := p_gtr q_hx q_hy q_r
theorem z33 {kd : IntKind} {m n : Int} (q_r : Ops P os K X e ((d, .bool (decide (n ≤ m))) :: al) H) (q_hx : evL al x = some (.int kd m) := by exact rfl) (q_hy : evL al y = some (.int kd n) := by exact rfl) : Ops P (A d (.bin .geq x y) :: os) K X e al H := p_geq q_hx q_hy q_r
theorem z34 {kd : IntKind} {m n : Int} (q_r : Ops P os K X e ((d, .int kd (m * n)) :: al) H) (q_hx : evL al x = some (.int kd m) := by exact rfl) (q_hy : evL al y = some (.int kd n) := by exact rfl) (q_h : kd.wrap (m * n) = m * n := by exact (wrap64 (by omega) (by omega))) : Ops P (A d (.bin .mul x y) :: os) K X e al H := p_mul q_hx q_hy q_h q_r
theorem z35 {kd : IntKind} {m n : Int} (q_r : Ops P os K X e ((d, .int kd (m.tmod n)) :: al) H) (q_hx : evL al x = some (.int kd m) := by exact rfl) (q_hy : evL al y = some (.int kd n) := by exact rfl) (q_h : n ≠ 0 := by omega) : Ops P (A d (.bin .rem x y) :: os) K X e al H := p_rem q_hx q_hy q_h q_r
theorem z36 {m n : ByteArray} (q_r : Ops P os K X e ((d, .bool (decide (m.toList = n.toList))) :: al) H) (q_hx : evL al x = some (.string m) := by exact rfl) (q_hy : evL al y = some (.string n) := by exact rfl) : Ops P (A d (.bin .eql x y) :: os) K X e al H := p_seq q_hx q_hy q_r
theorem z37 {kd k2 : IntKind} {m n : Int} (q_r : Ops P os K X e ((d, .int kd (kd.wrap (m * 2 ^ (min n.toNat kd.bits)))) :: al) H) (q_hx : evL al x = some (.int kd m) := by exact rfl) (q_hy : evL al y = some (.int k2 n) := by exact rfl) (q_h : 0 ≤ n := by omega) : Ops P (A d (.bin .shl x y) :: os) K X e al H := p_shl q_hx q_hy q_h q_r
theorem z38 {kd k2 : IntKind} {m n : Int} (q_r : Ops P os K X e ((d, .int kd (m.fdiv (2 ^ (min n.toNat kd.bits)))) :: al) H) (q_hx : evL al x = some (.int kd m) := by exact rfl) (q_hy : evL al y = some (.int k2 n) := by exact rfl) (q_h : 0 ≤ n := by omega) : Ops P (A d (.bin .shr x y) :: os) K X e al H := p_shr q_hx q_hy q_h q_r
theorem z39 {kd : IntKind} {m n : Int} (q_r : Ops P os K X e ((d, .int kd (kd.wrap (BitVec.ofInt kd.bits m &&& BitVec.ofInt kd.bits n).toNat)) :: al) H) (q_hx : evL al x = some (.int kd m) := by exact rfl) (q_hy : evL al y = some (.int kd n) := by exact rfl) : Ops P (A d (.bin .and x y) :: os) K X e al H := p_and q_hx q_hy q_r
theorem z40 {kd : IntKind} {m n : Int} (q_r : Ops P os K X e ((d, .int kd (kd.wrap (BitVec.ofInt kd.bits m ||| BitVec.ofInt kd.bits n).toNat)) :: al) H) (q_hx : evL al x = some (.int kd m) := by exact rfl) (q_hy : evL al y = some (.int kd n) := by exact rfl) : Ops P (A d (.bin .or x y) :: os) K X e al H := p_or q_hx q_hy q_r
theorem z41 {c : Prop} {i : Decidable c} (q_r : Ops P os K X e ((d, .bool (decide (¬ c))) :: al) H) (q_hx : evL al x = some (.bool (decide c)) := by exact rfl) : Ops P (A d (.un .not x) :: os) K X e al H := p_notD q_hx q_r
theorem z42 {n a b : Bool} (q_r : Ops P os K X e ((d, .bool ((a == b) != n)) :: al) H) (q_hx : evL al x = some (.bool a) := by exact rfl) (q_hy : evL al y = some (.bool b) := by exact rfl) : Ops P (A d (.eqB n x y) :: os) K X e al H := p_eqB q_hx q_hy q_r
theorem z43 {op : UnOp} (q_r : Ops P os K X e ((d, w) :: al) H) (q_hx : evL al x = some u := by exact rfl) (q_h : unA op u = some w := by exact rfl) : Ops P (A d (.un op x) :: os) K X e al H := p_un q_hx q_h q_r
theorem z44 {kd : IntKind} {m n : Int} (q_r : Ops P os K X e ((d, .int kd (max m n)) :: al) H) (q_hx : evL al x = some (.int kd m) := by exact rfl) (q_hy : evL al y = some (.int kd n) := by exact rfl) : Ops P (A d (.mx [x, y]) :: os) K X e al H := p_mx2 q_hx q_hy q_r
theorem z45 {kd : IntKind} {m n : Int} (q_r : Ops P os K X e ((d, .int kd (min m n)) :: al) H) (q_hx : evL al x = some (.int kd m) := by exact rfl) (q_hy : evL al y = some (.int kd n) := by exact rfl) : Ops P (A d (.mn [x, y]) :: os) K X e al H := p_mn2 q_hx q_hy q_r
theorem z46 {s : ByteArray} (q_r : Ops P os K X e ((d, .int .i64 s.size) :: al) H) (q_hx : evL al x = some (.string s) := by exact rfl) : Ops P (A d (.lenS x) :: os) K X e al H := p_lenS q_hx q_r
theorem z47 {k1 k2 : IntKind} {n : Int} (q_r : Ops P os K X e ((d, .int k1 n) :: al) H) (q_hx : evL al x = some (.int k2 n) := by exact rfl) (q_h : k1.wrap n = n := by exact rfl) : Ops P (A d (.cvI k1 x) :: os) K X e al H := p_cvIw q_hx q_h q_r
theorem z48 {size : Nat} (q_r : Ops P os K X e ((d, w) :: al) H) (q_hx : evL al x = some u := by exact rfl) (q_hy : evL al y = some v := by exact rfl) (q_h : iaS size u v = some w := by exact (IsS.ia (by assumption) (by first | omega | (simp only [List.length_set, List.length_append, List.length_cons, List.length_nil, List.length_replicate, List.length_take, List.length_drop, List.length_map]; omega)) (by first | omega | (simp only [List.length_set, List.length_append, List.length_cons, List.length_nil, List.length_replicate, List.length_take, List.length_drop, List.length_map]; omega)))) : Ops P (A d (.ia size x y) :: os) K X e al H := p_ia q_hx q_hy q_h q_r
theorem z49 {size : Nat} (q_r : Ops P os K X e ((d, w) :: al) H) (q_hx : evL al x = some u := by exact rfl) (q_hy : evL al y = some v := by exact rfl) (q_h : iaS size u v = some w := by exact (IsS.ia (Hp.is2 (by assumption) (by first | exact .head _ | exact .tail _ (.head _) | exact .tail _ (.tail _ (.head _)) | exact .tail _ (.tail _ (.tail _ (.head _))) | exact .tail _ (.tail _ (.tail _ (.tail _ (.head _)))) | exact .tail _ (.tail _ (.tail _ (.tail _ (.tail _ (.head _)))))) (by rfl)) (by first | omega | (simp only [List.length_set, List.length_append, List.length_cons, List.length_nil, List.length_replicate, List.length_take, List.length_drop, List.length_map]; omega)) (by first | omega | (simp only [List.length_set, List.length_append, List.length_cons, List.length_nil, List.length_replicate, List.length_take, List.length_drop, List.length_map]; omega)))) : Ops P (A d (.ia size x y) :: os) K X e al H := p_ia q_hx q_hy q_h q_r
theorem z50  (q_r : Ops P os K X e ((d, w) :: al) H) (q_hx : evL al x = some u := by exact rfl) (q_h : lenA u = some w := by exact rfl) : Ops P (A d (.len x) :: os) K X e al H := p_len q_hx q_h q_r
theorem z51  (q_r : Ops P os K X e ((d, w) :: al) H) (q_hx : evL al x = some u := by exact rfl) (q_h : lenA u = some w := by exact (IsS.len (by assumption))) : Ops P (A d (.len x) :: os) K X e al H := p_len q_hx q_h q_r
theorem z52  (q_r : Ops P os K X e ((d, w) :: al) H) (q_hx : evL al x = some u := by exact rfl) (q_h : lenA u = some w := by exact (IsS.len (Hp.is2 (by assumption) (by first | exact .head _ | exact .tail _ (.head _) | exact .tail _ (.tail _ (.head _)) | exact .tail _ (.tail _ (.tail _ (.head _))) | exact .tail _ (.tail _ (.tail _ (.tail _ (.head _)))) | exact .tail _ (.tail _ (.tail _ (.tail _ (.tail _ (.head _)))))) (by rfl)))) : Ops P (A d (.len x) :: os) K X e al H := p_len q_hx q_h q_r
theorem z53 {b o : Nat} {cs : List Value} (q_r : Ops P os K X e ((d, w) :: al) H) (q_hp : Hp H0 H L := by assumption) (q_hx : evL al x = some (.pointer (some ⟨b, o, none⟩)) := by exact rfl) (q_hm : Res.blk b cs ∈ L := by first | exact .head _ | exact .tail _ (.head _) | exact .tail _ (.tail _ (.head _)) | exact .tail _ (.tail _ (.tail _ (.head _))) | exact .tail _ (.tail _ (.tail _ (.tail _ (.head _)))) | exact .tail _ (.tail _ (.tail _ (.tail _ (.tail _ (.head _)))))) (q_h : nthO cs o = some w := by exact rfl) : Ops P (A d (.ld none x) :: os) K X e al H := h_ldB q_hp q_hx q_hm q_h q_r
theorem z54 {n : Option Nat} (q_r : Ops P os K X e ((d, w) :: al) H) (q_hx : evL al x = some u := by exact rfl) (q_h : ldA n H u = some w := by exact (IsS.ldA (by assumption) (by first | omega | (simp only [List.length_set, List.length_append, List.length_cons, List.length_nil, List.length_replicate, List.length_take, List.length_drop, List.length_map]; omega)) (by first | omega | (simp only [List.length_set, List.length_append, List.length_cons, List.length_nil, List.length_replicate, List.length_take, List.length_drop, List.length_map]; omega)) rfl rfl)) : Ops P (A d (.ld n x) :: os) K X e al H := p_ld q_hx q_h q_r
theorem z55 {n : Option Nat} (q_r : Ops P os K X e ((d, w) :: al) H) (q_hx : evL al x = some u := by exact rfl) (q_h : ldA n H u = some w := by exact (IsS.ldA (IsS.fr (by assumption) (Hp.fr (by assumption))) (by first | omega | (simp only [List.length_set, List.length_append, List.length_cons, List.length_nil, List.length_replicate, List.length_take, List.length_drop, List.length_map]; omega)) (by first | omega | (simp only [List.length_set, List.length_append, List.length_cons, List.length_nil, List.length_replicate, List.length_take, List.length_drop, List.length_map]; omega)) rfl rfl)) : Ops P (A d (.ld n x) :: os) K X e al H := p_ld q_hx q_h q_r
theorem z56 {n : Option Nat} (q_r : Ops P os K X e ((d, w) :: al) H) (q_hx : evL al x = some u := by exact rfl) (q_h : ldA n H u = some w := by exact (IsS.ldA (Hp.is2 (by assumption) (by first | exact .head _ | exact .tail _ (.head _) | exact .tail _ (.tail _ (.head _)) | exact .tail _ (.tail _ (.tail _ (.head _))) | exact .tail _ (.tail _ (.tail _ (.tail _ (.head _)))) | exact .tail _ (.tail _ (.tail _ (.tail _ (.tail _ (.head _)))))) (by rfl)) (by first | omega | (simp only [List.length_set, List.length_append, List.length_cons, List.length_nil, List.length_replicate, List.length_take, List.length_drop, List.length_map]; omega)) (by first | omega | (simp only [List.length_set, List.length_append, List.length_cons, List.length_nil, List.length_replicate, List.length_take, List.length_drop, List.length_map]; omega)) rfl rfl)) : Ops P (A d (.ld n x) :: os) K X e al H := p_ld q_hx q_h q_r
theorem z57 {n : Option Nat} (q_r : Ops P os K X e ((d, w) :: al) H) (q_hx : evL al x = some u := by exact rfl) (q_h : ldA n H u = some w := by exact (IsS.ldO (by assumption) (by first | omega | (simp only [List.length_set, List.length_append, List.length_cons, List.length_nil, List.length_replicate, List.length_take, List.length_drop, List.length_map]; omega)) (by first | omega | (simp only [List.length_set, List.length_append, List.length_cons, List.length_nil, List.length_replicate, List.length_take, List.length_drop, List.length_map]; omega)) rfl rfl)) : Ops P (A d (.ld n x) :: os) K X e al H := p_ld q_hx q_h q_r
theorem z58 {n : Option Nat} (q_r : Ops P os K X e ((d, w) :: al) H) (q_hx : evL al x = some u := by exact rfl) (q_h : ldA n H u = some w := by exact (IsS.ldO (IsS.fr (by assumption) (Hp.fr (by assumption))) (by first | omega | (simp only [List.length_set, List.length_append, List.length_cons, List.length_nil, List.length_replicate, List.length_take, List.length_drop, List.length_map]; omega)) (by first | omega | (simp only [List.length_set, List.length_append, List.length_cons, List.length_nil, List.length_replicate, List.length_take, List.length_drop, List.length_map]; omega)) rfl rfl)) : Ops P (A d (.ld n x) :: os) K X e al H := p_ld q_hx q_h q_r
theorem z59 {n : Option Nat} (q_r : Ops P os K X e ((d, w) :: al) H) (q_hx : evL al x = some u := by exact rfl) (q_h : ldA n H u = some w := by exact (IsS.ldO (Hp.is2 (by assumption) (by first | exact .head _ | exact .tail _ (.head _) | exact .tail _ (.tail _ (.head _)) | exact .tail _ (.tail _ (.tail _ (.head _))) | exact .tail _ (.tail _ (.tail _ (.tail _ (.head _)))) | exact .tail _ (.tail _ (.tail _ (.tail _ (.tail _ (.head _)))))) (by rfl)) (by first | omega | (simp only [List.length_set, List.length_append, List.length_cons, List.length_nil, List.length_replicate, List.length_take, List.length_drop, List.length_map]; omega)) (by first | omega | (simp only [List.length_set, List.length_append, List.length_cons, List.length_nil, List.length_replicate, List.length_take, List.length_drop, List.length_map]; omega)) rfl rfl)) : Ops P (A d (.ld n x) :: os) K X e al H := p_ld q_hx q_h q_r
theorem z60 {n : Option Nat} (q_r : Ops P os K X e ((d, w) :: al) H) (q_hx : evL al x = some u := by exact rfl) (q_h : ldA n H u = some w := by exact (IsS.ldW (by assumption) (by first | omega | (simp only [List.length_set, List.length_append, List.length_cons, List.length_nil, List.length_replicate, List.length_take, List.length_drop, List.length_map]; omega)) (by first | omega | (simp only [List.length_set, List.length_append, List.length_cons, List.length_nil, List.length_replicate, List.length_take, List.length_drop, List.length_map]; omega)) rfl)) : Ops P (A d (.ld n x) :: os) K X e al H := p_ld q_hx q_h q_r
theorem z61 {n : Option Nat} (q_r : Ops P os K X e ((d, w) :: al) H) (q_hx : evL al x = some u := by exact rfl) (q_h : ldA n H u = some w := by exact (IsS.ldW (IsS.fr (by assumption) (Hp.fr (by assumption))) (by first | omega | (simp only [List.length_set, List.length_append, List.length_cons, List.length_nil, List.length_replicate, List.length_take, List.length_drop, List.length_map]; omega)) (by first | omega | (simp only [List.length_set, List.length_append, List.length_cons, List.length_nil, List.length_replicate, List.length_take, List.length_drop, List.length_map]; omega)) rfl)) : Ops P (A d (.ld n x) :: os) K X e al H := p_ld q_hx q_h q_r
theorem z62 {n : Option Nat} (q_r : Ops P os K X e ((d, w) :: al) H) (q_hx : evL al x = some u := by exact rfl) (q_h : ldA n H u = some w := by exact (IsS.ldW (Hp.is2 (by assumption) (by first | exact .head _ | exact .tail _ (.head _) | exact .tail _ (.tail _ (.head _)) | exact .tail _ (.tail _ (.tail _ (.head _))) | exact .tail _ (.tail _ (.tail _ (.tail _ (.head _)))) | exact .tail _ (.tail _ (.tail _ (.tail _ (.tail _ (.head _)))))) (by rfl)) (by first | omega | (simp only [List.length_set, List.length_append, List.length_cons, List.length_nil, List.length_replicate, List.length_take, List.length_drop, List.length_map]; omega)) (by first | omega | (simp only [List.length_set, List.length_append, List.length_cons, List.length_nil, List.length_replicate, List.length_take, List.length_drop, List.length_map]; omega)) rfl)) : Ops P (A d (.ld n x) :: os) K X e al H := p_ld q_hx q_h q_r
theorem z63 {off : Nat} (q_r : Ops P os K X e ((d, w) :: al) H) (q_hx : evL al x = some u := by exact rfl) (q_h : faA off u = some w := by exact rfl) : Ops P (A d (.fa off x) :: os) K X e al H := p_fa q_hx q_h q_r
theorem z64 {b o n : Nat} {cs c q : List Value} (q_r : ∀ H', Hp H0 H' (F (.blk b q)) → Ops P os K X e al H') (q_hp : Hp H0 H L := by assumption) (q_hx : evL al x = some (.pointer (some ⟨b, o, none⟩)) := by exact rfl) (q_hy : evL al y = some v := by exact rfl) (q_hf : Foc L (.blk b cs) F := by first | exact .head | exact .tail .head | exact .tail (.tail .head) | exact .tail (.tail (.tail .head)) | exact .tail (.tail (.tail (.tail .head))) | exact .tail (.tail (.tail (.tail (.tail .head))))) (q_hc : celO n v = some c := by exact rfl) (q_h : putO cs o c = some q := by exact rfl) : Ops P (S (.st n x y) :: os) K X e al H := h_stB q_hp q_hx q_hy q_hf q_hc q_h q_r
theorem z65 {b o n : Nat} {cs c : List Value} (q_r : Ops P os K X e ((d, .agg ⟨c⟩) :: al) H) (q_hp : Hp H0 H L := by assumption) (q_hx : evL al x = some (.pointer (some ⟨b, o, none⟩)) := by exact rfl) (q_hm : Res.blk b cs ∈ L := by first | exact .head _ | exact .tail _ (.head _) | exact .tail _ (.tail _ (.head _)) | exact .tail _ (.tail _ (.tail _ (.head _))) | exact .tail _ (.tail _ (.tail _ (.tail _ (.head _)))) | exact .tail _ (.tail _ (.tail _ (.tail _ (.tail _ (.head _)))))) (q_h : subO cs o n = some c := by exact rfl) : Ops P (A d (.ld (some n) x) :: os) K X e al H := h_ldBW q_hp q_hx q_hm q_h q_r
theorem z66 {off : Nat} {l : List Value} (q_r : Ops P os K X e ((d, w) :: al) H) (q_hx : evL al x = some (.agg ⟨l⟩) := by exact rfl) (q_h : nthO l off = some w := by exact rfl) : Ops P (A d (.fld none off x) :: os) K X e al H := h_fld q_hx q_h q_r
theorem z67 {off n : Nat} {l cs : List Value} (q_r : Ops P os K X e ((d, .agg ⟨cs⟩) :: al) H) (q_hx : evL al x = some (.agg ⟨l⟩) := by exact rfl) (q_h : subO l off n = some cs := by exact rfl) : Ops P (A d (.fld (some n) off x) :: os) K X e al H := h_fldN q_hx q_h q_r
theorem z68 {i : Nat} {l : List Value} (q_r : Ops P os K X e ((d, w) :: al) H) (q_hx : evL al x = some (.tuple ⟨l⟩) := by exact rfl) (q_h : nthO l i = some w := by exact rfl) : Ops P (A d (.ext x i) :: os) K X e al H := h_ext q_hx q_h q_r
theorem z69 {ps : List (Nat × Nat × Operand)} {z cs : List Value} (q_r : Ops P os K X e ((d, .agg ⟨cs⟩) :: al) H) (q_h : fillO al ps z = some cs := by exact rfl) : Ops P (A d (.bld z ps) :: os) K X e al H := h_bld q_h q_r
theorem z70 {kd : Nat} {n b : Bool} (q_r : Ops P os K X e ((d, .bool (b != n)) :: al) H) (q_hx : evL al x = some u := by exact rfl) (q_h : nilA kd u = some b := by exact rfl) : Ops P (A d (.isnil kd n x) :: os) K X e al H := p_isnil q_hx q_h q_r
theorem z71  (q_r : Ops P os K X e ((d, w) :: al) H) (q_hx : evL al x = some u := by exact rfl) (q_h : nilcA u = some w := by exact rfl) : Ops P (A d (.nilc x) :: os) K X e al H := p_nilc q_hx q_h q_r
theorem z72 {f : FuncId} {xs ys : List Operand} {us vs : List Value} (q_r : Ops P os K X e ((d, .func (.func f) us.toArray vs.toArray) :: al) H) (q_hx : evsL al xs = some us := by exact rfl) (q_hy : evsL al ys = some vs := by exact rfl) (q_h : (us.all isP && vs.all isP) = true := by exact rfl) : Ops P (A d (.mkf f xs ys) :: os) K X e al H := p_mkf q_hx q_hy q_h q_r
theorem z73 {t : TypeId} (q_r : Ops P os K X e ((d, w) :: al) H) (q_hx : evL al x = some u := by exact rfl) (q_h : mkiA t u = some w := by exact rfl) : Ops P (A d (.mki t x) :: os) K X e al H := p_mki q_hx q_h q_r
theorem z74  (q_r : Ops P os K X e ((d, w) :: al) H) (q_hx : evL al x = some u := by exact rfl) (q_h : reA u = some w := by exact rfl) : Ops P (A d (.re x) :: os) K X e al H := p_re q_hx q_h q_r
theorem z75  (q_r : Ops P os K X e ((d, w) :: al) H) (q_hx : evL al x = some u := by exact rfl) (q_h : imA u = some w := by exact rfl) : Ops P (A d (.im x) :: os) K X e al H := p_im q_hx q_h q_r
theorem z76  (q_r : Ops P os K X e ((d, w) :: al) H) (q_hx : evL al x = some u := by exact rfl) (q_hy : evL al y = some v := by exact rfl) (q_h : cxA u v = some w := by exact rfl) : Ops P (A d (.cx x y) :: os) K X e al H := p_cx q_hx q_hy q_h q_r
theorem z77 {k1 : FloatKind} {k2 : IntKind} {n : Int} (q_r : Ops P os K X e ((d, .float k1 (k1.nearest n)) :: al) H) (q_hx : evL al x = some (.int k2 n) := by exact rfl) : Ops P (A d (.cvF k1 x) :: os) K X e al H := p_cvF q_hx q_r
theorem z78 {len size : Nat} {z q cs : List Value} {ps : List (Nat × Nat × Operand)} (q_r : ∀ v H', Hp H0 H' (.sl size v cs :: L) → Ops P os K X e ((d, v) :: al) H') (q_hp : Hp H0 H L := by assumption) (q_hz : lenN z size = true := by exact rfl) (q_hs : Nat.blt 0 size = true := by exact rfl) (q_hs2 : Nat.blt size 64 = true := by exact rfl) (q_hq : replO len z = some q := by exact rfl) (q_h : fillO al ps q = some cs := by exact rfl) (q_hl : lenN cs (len * size) = true := by exact rfl) : Ops P (A d (.bs len size z ps) :: os) K X e al H := h_bs q_hp q_hz q_hs q_hs2 q_hq q_h q_hl q_r
theorem z79 {z : List Value} (q_r : ∀ b H', Hp H0 H' (.blk b z :: L) → Ops P os K X e ((d, .pointer (some ⟨b, 0, none⟩)) :: al) H') (q_hp : Hp H0 H L := by assumption) : Ops P (A d (.al z) :: os) K X e al H := h_al q_hp q_r
theorem z80 {c : List Value} (q_r : ∀ b H', Hp H0 H' (.blk b c :: L) → Ops P os K X e ((d, .pointer (some ⟨b, 0, none⟩)) :: al) H') (q_hp : Hp H0 H L := by assumption) (q_hx : evL al x = some u := by exact rfl) (q_hc : celB u = some c := by exact rfl) : Ops P (A d (.bx x) :: os) K X e al H := h_bx q_hp q_hx q_hc q_r
theorem z81 {size : Nat} {ds : List Value} {α : Type} {T : Enc α} {xs : List α} {bytes : Nat} {z : List Value} {q_y' : α} (q_r : ∀ s H', Hp H0 H' (F (.sl size s (T.all (xs ++ [q_y'])))) → Ops P os K X e ((d, s) :: al) H') (q_hp : Hp H0 H (.sl size v ds :: L) := by assumption) (q_hx : evL al x = some u := by exact rfl) (q_hy : evL al y = some v := by exact rfl) (q_hf : Foc L (.sl size u (T.all xs)) F := by first | exact .head | exact .tail .head | exact .tail (.tail .head) | exact .tail (.tail (.tail .head)) | exact .tail (.tail (.tail (.tail .head))) | exact .tail (.tail (.tail (.tail (.tail .head))))) (q_hs2 : Nat.blt size 64 = true := by exact rfl) (q_hs : T.size = size := by rfl) (q_hd : ds = T.enc q_y' := by rfl) (q_hb : xs.length + 1 ≤ 1073741824 := by first | omega | (simp only [List.length_set, List.length_append, List.length_cons, List.length_nil, List.length_replicate, List.length_take, List.length_drop, List.length_map]; omega)) : Ops P (A d (.app size bytes z x y) :: os) K X e al H := h_app1 q_y' q_hp q_hx q_hy q_hf q_hs2 q_hs q_hd q_hb q_r
theorem z82 {size : Nat} {α : Type} {T : Enc α} {xs ys : List α} {bytes : Nat} {z : List Value} (q_r : ∀ s H', Hp H0 H' (F (.sl size s (T.all (xs ++ ys)))) → Ops P os K X e ((d, s) :: al) H') (q_hp : Hp H0 H L := by assumption) (q_hx : evL al x = some u := by exact rfl) (q_hy : evL al y = some v := by exact rfl) (q_hf : Foc L (.sl size u (T.all xs)) F := by first | exact .head | exact .tail .head | exact .tail (.tail .head) | exact .tail (.tail (.tail .head)) | exact .tail (.tail (.tail (.tail .head))) | exact .tail (.tail (.tail (.tail (.tail .head))))) (q_hi : IsS T H v ys := by assumption) (q_hs2 : Nat.blt size 64 = true := by exact rfl) (q_hs : T.size = size := by rfl) (q_hb : xs.length + ys.length ≤ 1073741824 := by first | omega | (simp only [List.length_set, List.length_append, List.length_cons, List.length_nil, List.length_replicate, List.length_take, List.length_drop, List.length_map]; omega)) : Ops P (A d (.app size bytes z x y) :: os) K X e al H := h_appR q_hp q_hx q_hy q_hf q_hi q_hs2 q_hs q_hb q_r
theorem z83 {size : Nat} {α : Type} {T : Enc α} {xs ys : List α} {bytes : Nat} {z : List Value} (q_r : ∀ s H', Hp H0 H' (F (.sl size s (T.all (xs ++ ys)))) → Ops P os K X e ((d, s) :: al) H') (q_hp : Hp H0 H L := by assumption) (q_hx : evL al x = some u := by exact rfl) (q_hy : evL al y = some v := by exact rfl) (q_hf : Foc L (.sl size u (T.all xs)) F := by first | exact .head | exact .tail .head | exact .tail (.tail .head) | exact .tail (.tail (.tail .head)) | exact .tail (.tail (.tail (.tail .head))) | exact .tail (.tail (.tail (.tail (.tail .head))))) (q_hi : IsS T H v ys := by exact (IsS.fr (by assumption) (Hp.fr (by assumption)))) (q_hs2 : Nat.blt size 64 = true := by exact rfl) (q_hs : T.size = size := by rfl) (q_hb : xs.length + ys.length ≤ 1073741824 := by first | omega | (simp only [List.length_set, List.length_append, List.length_cons, List.length_nil, List.length_replicate, List.length_take, List.length_drop, List.length_map]; omega)) : Ops P (A d (.app size bytes z x y) :: os) K X e al H := h_appR q_hp q_hx q_hy q_hf q_hi q_hs2 q_hs q_hb q_r
theorem z84 {α : Type} {T : Enc α} {n size : Nat} {xs : List α} {i : Int} {q_x' : α} (q_r : ∀ H', Hp H0 H' (F (.sl size u (T.all (xs.set i.toNat q_x')))) → Ops P os K X e al H') (q_hp : Hp H0 H L := by assumption) (q_hx : evL al x = some (ptA u size i) := by exact rfl) (q_hy : evL al y = some v := by exact rfl) (q_hf : Foc L (.sl size u (T.all xs)) F := by first | exact .head | exact .tail .head | exact .tail (.tail .head) | exact .tail (.tail (.tail .head)) | exact .tail (.tail (.tail (.tail .head))) | exact .tail (.tail (.tail (.tail (.tail .head))))) (q_hs : T.size = size := by rfl) (q_h0 : 0 ≤ i := by first | omega | (simp only [List.length_set, List.length_append, List.length_cons, List.length_nil, List.length_replicate, List.length_take, List.length_drop, List.length_map]; omega)) (q_h1 : i < xs.length := by first | omega | (simp only [List.length_set, List.length_append, List.length_cons, List.length_nil, List.length_replicate, List.length_take, List.length_drop, List.length_map]; omega)) (q_hc : celO n v = some (T.enc q_x') := by rfl) : Ops P (S (.st n x y) :: os) K X e al H := h_stS q_hp q_x' q_hx q_hy q_hf q_hs q_h0 q_h1 q_hc q_r
theorem z85  (q_r : ∀ s, Hp H0 H (F (.sl size s (T.all ((xs.drop l.toNat).take (h.toNat - l.toNat))))) → Ops P os K X e ((d, s) :: al) H) (q_hp : Hp H0 H L := by assumption) (q_hx : evL al x = some u := by exact rfl) (q_hlo : evL al lo = some (.int k1 l) := by exact rfl) (q_hhi : evL al hi = some (.int k2 h) := by exact rfl) (q_hf : Foc L (.sl size u (T.all xs)) F := by first | exact .head | exact .tail .head | exact .tail (.tail .head) | exact .tail (.tail (.tail .head)) | exact .tail (.tail (.tail (.tail .head))) | exact .tail (.tail (.tail (.tail (.tail .head))))) (q_hs : T.size = size := by rfl) (q_h0 : 0 ≤ l := by first | omega | (simp only [List.length_set, List.length_append, List.length_cons, List.length_nil, List.length_replicate, List.length_take, List.length_drop, List.length_map]; omega)) (q_h1 : l ≤ h := by first | omega | (simp only [List.length_set, List.length_append, List.length_cons, List.length_nil, List.length_replicate, List.length_take, List.length_drop, List.length_map]; omega)) (q_h2 : h ≤ xs.length := by first | omega | (simp only [List.length_set, List.length_append, List.length_cons, List.length_nil, List.length_replicate, List.length_take, List.length_drop, List.length_map]; omega)) : Ops P (A d (.sl size x (some lo) (some hi) none) :: os) K X e al H := sl_lh q_hp q_hx q_hlo q_hhi q_hf q_hs q_h0 q_h1 q_h2 q_r
theorem z86  (q_r : ∀ s, Hp H0 H (F (.sl size s (T.all (xs.take h.toNat)))) → Ops P os K X e ((d, s) :: al) H) (q_hp : Hp H0 H L := by assumption) (q_hx : evL al x = some u := by exact rfl) (q_hhi : evL al hi = some (.int k2 h) := by exact rfl) (q_hf : Foc L (.sl size u (T.all xs)) F := by first | exact .head | exact .tail .head | exact .tail (.tail .head) | exact .tail (.tail (.tail .head)) | exact .tail (.tail (.tail (.tail .head))) | exact .tail (.tail (.tail (.tail (.tail .head))))) (q_hs : T.size = size := by rfl) (q_h1 : 0 ≤ h := by first | omega | (simp only [List.length_set, List.length_append, List.length_cons, List.length_nil, List.length_replicate, List.length_take, List.length_drop, List.length_map]; omega)) (q_h2 : h ≤ xs.length := by first | omega | (simp only [List.length_set, List.length_append, List.length_cons, List.length_nil, List.length_replicate, List.length_take, List.length_drop, List.length_map]; omega)) : Ops P (A d (.sl size x none (some hi) none) :: os) K X e al H := sl_h q_hp q_hx q_hhi q_hf q_hs q_h1 q_h2 q_r
theorem z87  (q_r : ∀ s, Hp H0 H (F (.sl size s (T.all (xs.drop l.toNat)))) → Ops P os K X e ((d, s) :: al) H) (q_hp : Hp H0 H L := by assumption) (q_hx : evL al x = some u := by exact rfl) (q_hlo : evL al lo = some (.int k1 l) := by exact rfl) (q_hf : Foc L (.sl size u (T.all xs)) F := by first | exact .head | exact .tail .head | exact .tail (.tail .head) | exact .tail (.tail (.tail .head)) | exact .tail (.tail (.tail (.tail .head))) | exact .tail (.tail (.tail (.tail (.tail .head))))) (q_hs : T.size = size := by rfl) (q_h1 : 0 ≤ l := by first | omega | (simp only [List.length_set, List.length_append, List.length_cons, List.length_nil, List.length_replicate, List.length_take, List.length_drop, List.length_map]; omega)) (q_h2 : l ≤ xs.length := by first | omega | (simp only [List.length_set, List.length_append, List.length_cons, List.length_nil, List.length_replicate, List.length_take, List.length_drop, List.length_map]; omega)) : Ops P (A d (.sl size x (some lo) none none) :: os) K X e al H := sl_l q_hp q_hx q_hlo q_hf q_hs q_h1 q_h2 q_r
theorem z88 {t : Nat} {M : AEnd → Heap → Prop} {v : Value} (q_h : M (.ret v) H) (q_hv : lk al t = some v := by exact rfl) (q_ht : isTup v = false := by exact rfl) : Pst (funP [.tmp t] M) .ret e al H := q_funR q_hv q_ht q_h
theorem z89 {t : Nat} {M : AEnd → Heap → Prop} {v : Value} (q_h : M (.ret v) H) (q_hv : lk al t = some v := by exact rfl) (q_ht : isTup v = false := by exact (IsS.nt (by assumption))) : Pst (funP [.tmp t] M) .ret e al H := q_funR q_hv q_ht q_h
theorem z90 {t : Nat} {M : AEnd → Heap → Prop} {v : Value} (q_h : M (.ret v) H) (q_hv : lk al t = some v := by exact rfl) (q_ht : isTup v = false := by exact (Hp.nt (by assumption) (by first | exact .head _ | exact .tail _ (.head _) | exact .tail _ (.tail _ (.head _)) | exact .tail _ (.tail _ (.tail _ (.head _))) | exact .tail _ (.tail _ (.tail _ (.tail _ (.head _)))) | exact .tail _ (.tail _ (.tail _ (.tail _ (.tail _ (.head _)))))))) : Pst (funP [.tmp t] M) .ret e al H := q_funR q_hv q_ht q_h
theorem z91 {t u : Nat} {M : AEnd → Heap → Prop} {v w : Value} (q_h : M (.ret (.tuple #[v, w])) H) (q_hv : lk al t = some v := by exact rfl) (q_hw : lk al u = some w := by exact rfl) (q_ht : isTup v = false := by exact rfl) (q_hu : isTup w = false := by exact rfl) : Pst (funP [.tmp t, .tmp u] M) .ret e al H := q_funR2 q_hv q_hw q_ht q_hu q_h
theorem z92 {t u s : Nat} {M : AEnd → Heap → Prop} {v w x : Value} (q_h : M (.ret (.tuple #[v, w, x])) H) (q_hv : lk al t = some v := by exact rfl) (q_hw : lk al u = some w := by exact rfl) (q_hx : lk al s = some x := by exact rfl) (q_ht : isTup v = false := by exact rfl) (q_hu : isTup w = false := by exact rfl) (q_hs : isTup x = false := by exact rfl) : Pst (funP [.tmp t, .tmp u, .tmp s] M) .ret e al H := q_funR3 q_hv q_hw q_hx q_ht q_hu q_hs q_h
theorem z93 {M : AEnd → Heap → Prop} (q_h : M (.ret (.tuple #[])) H)  : Pst (funP [] M) .ret e al H := q_funR0 q_h
theorem z94 {M : AEnd → Heap → Prop} (q_h : M (.ret (.tuple #[])) H)  : Pst (funP [] M) .normal e al H := q_funN0 q_h
theorem z95 {t : Nat} {c : Prop} {i : Decidable (¬ c)} (q_h1 : ¬ c → Wk P (.cond (.tmp t) a b k) Q e ((t, .bool true) :: al) H) (q_h2 : c → Wk P (.cond (.tmp t) a b k) Q e ((t, .bool false) :: al) H) (q_hc : lk al t = some (.bool (decide (¬ c))) := by exact rfl) : Wk P (.cond (.tmp t) a b k) Q e al H := k_condN q_hc q_h1 q_h2
theorem z96 {t : Nat} {c : Prop} {i : Decidable c} (q_h1 : c → Wk P (.cond (.tmp t) a b k) Q e ((t, .bool true) :: al) H) (q_h2 : ¬ c → Wk P (.cond (.tmp t) a b k) Q e ((t, .bool false) :: al) H) (q_hc : lk al t = some (.bool (decide c)) := by exact rfl) : Wk P (.cond (.tmp t) a b k) Q e al H := k_condD q_hc q_h1 q_h2
theorem z97 {t : Nat} {c : Bool} (q_h1 : c = true → Wk P (.cond (.tmp t) a b k) Q e ((t, .bool true) :: al) H) (q_h2 : c = false → Wk P (.cond (.tmp t) a b k) Q e ((t, .bool false) :: al) H) (q_hc : lk al t = some (.bool c) := by exact rfl) : Wk P (.cond (.tmp t) a b k) Q e al H := k_cond q_hc q_h1 q_h2
theorem z98 {j : Nat} {w : Bool} {op : AOp} {c : Prop} {i : Decidable (¬ c)} (q_h1 : ¬ c → Ops P (G d j w op :: os) K X e ((j, .bool true) :: al) H) (q_h2 : c → Ops P (G d j w op :: os) K X e ((j, .bool false) :: al) H) (q_hc : lk al j = some (.bool (decide (¬ c))) := by exact rfl) : Ops P (G d j w op :: os) K X e al H := g_N q_hc q_h1 q_h2
theorem z99 {j : Nat} {w : Bool} {op : AOp} {c : Prop} {i : Decidable c} (q_h1 : c → Ops P (G d j w op :: os) K X e ((j, .bool true) :: al) H) (q_h2 : ¬ c → Ops P (G d j w op :: os) K X e ((j, .bool false) :: al) H) (q_hc : lk al j = some (.bool (decide c)) := by exact rfl) : Ops P (G d j w op :: os) K X e al H := g_D q_hc q_h1 q_h2
theorem z100 {j : Nat} {w : Bool} {op : AOp} {c : Bool} (q_h1 : c = true → Ops P (G d j w op :: os) K X e ((j, .bool true) :: al) H) (q_h2 : c = false → Ops P (G d j w op :: os) K X e ((j, .bool false) :: al) H) (q_hc : lk al j = some (.bool c) := by exact rfl) : Ops P (G d j w op :: os) K X e al H := g_S q_hc q_h1 q_h2
theorem z101 {t : Nat} {x y : Operand} {c : Prop} {i : Decidable (¬ c)} (q_h1 : ¬ c → Ops P (A d (.pick (.tmp t) x y) :: os) K X e ((t, .bool true) :: al) H) (q_h2 : c → Ops P (A d (.pick (.tmp t) x y) :: os) K X e ((t, .bool false) :: al) H) (q_hc : lk al t = some (.bool (decide (¬ c))) := by exact rfl) : Ops P (A d (.pick (.tmp t) x y) :: os) K X e al H := pk_N q_hc q_h1 q_h2
theorem z102 {t : Nat} {x y : Operand} {c : Prop} {i : Decidable c} (q_h1 : c → Ops P (A d (.pick (.tmp t) x y) :: os) K X e ((t, .bool true) :: al) H) (q_h2 : ¬ c → Ops P (A d (.pick (.tmp t) x y) :: os) K X e ((t, .bool false) :: al) H) (q_hc : lk al t = some (.bool (decide c)) := by exact rfl) : Ops P (A d (.pick (.tmp t) x y) :: os) K X e al H := pk_D q_hc q_h1 q_h2
theorem z103 {t : Nat} {x y : Operand} {c : Bool} (q_h1 : c = true → Ops P (A d (.pick (.tmp t) x y) :: os) K X e ((t, .bool true) :: al) H) (q_h2 : c = false → Ops P (A d (.pick (.tmp t) x y) :: os) K X e ((t, .bool false) :: al) H) (q_hc : lk al t = some (.bool c) := by exact rfl) : Ops P (A d (.pick (.tmp t) x y) :: os) K X e al H := pk_S q_hc q_h1 q_h2
theorem z104 {j : Nat} {w : Bool} {op : AOp} {c : Bool} (q_h1 : c = true → Ops P (GS j w op :: os) K X e ((j, .bool true) :: al) H) (q_h2 : c = false → Ops P (GS j w op :: os) K X e ((j, .bool false) :: al) H) (q_hc : lk al j = some (.bool c) := by exact rfl) : Ops P (GS j w op :: os) K X e al H := gs_S q_hc q_h1 q_h2
end
end Go.Ab
