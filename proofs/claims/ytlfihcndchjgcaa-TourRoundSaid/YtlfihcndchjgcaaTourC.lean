/- Own text of this session: TourC. -/
import Derived.Test.YtlfihcndchjgcaaTourB
import Derived.Test.YtlfihcndchjgcaaAbD
set_option linter.unusedVariables false
set_option linter.unusedSimpArgs false
namespace Go.Proofs.Ytlfihcndchjgcaa
open Go Go.Ab
theorem natA_of {P : Program} {f : FuncId} {v w : Value} (h : runP P (callFunc f #[v]) = some (.value w)) (hv : plainV v = true) (hw : plainV w = true) : natA P f [v] = some w := by
  unfold natA
  rw [if_pos (by simp [hv])]
  show (match runP P (callFunc f #[v]) with | some (.value v) => if plainV v then some v else none | _ => none) = _
  rw [h]
  exact if_pos hw
theorem trunc_call (v : Value) : runP Try.prog (callFunc 72 #[v]) = runP Try.prog (bind (Extern.MathFloor.toIntegral "math.archTrunc" .zero #[v]) fun r => pure (.value r)) := by kernel_rfl
theorem trunc_nat {n : Int} (h : n.natAbs < 9007199254740992) : natA Try.prog 72 [.float .f64 (flN n)] = some (.float .f64 (flN n)) := by
  have e1 := integral_flN h .zero
  obtain ⟨⟨s, m, p, e, _⟩, _⟩ := read_flN h
  rw [e] at e1
  have e2 : FloatKind.f64.decode (flN n) = .number s m p := e
  have e3 : Extern.MathFloor.toIntegral "math.archTrunc" .zero #[.float .f64 (flN n)] = pure (.float .f64 (flN n)) := by
    show (match FloatKind.f64.decode (flN n) with | .nan s t => _ | d => (pure (Value.float .f64 (FloatKind.f64.encode (d.integral .zero))) : Sem Value)) = _
    rw [e2]
    exact congrArg (fun w => pure (Value.float .f64 w)) e1
  have e4 : runP Try.prog (callFunc 72 #[.float .f64 (flN n)]) = some (.value (.float .f64 (flN n))) := by
    rw [trunc_call, e3]; rfl
  with_reducible exact natA_of e4 rfl rfl
/-! Comparisons, differences. -/
abbrev okN (a : Int) : Prop := a.natAbs < 9007199254740992
theorem ord {a b : Int} (ha : okN a) (hb : okN b) : FloatKind.f64.format.order (flN a) (flN b) = some (compare a b) := order_flN ha hb
theorem cmp_lt (a b : Int) : (some (compare a b) == some Ordering.lt) = decide (a < b) := by
  rcases Int.lt_trichotomy a b with h | h | h
  · rw [show compare a b = .lt from by simp [compare, compareOfLessAndEq, h], decide_eq_true h]; rfl
  · subst h; rw [show compare a a = .eq from by simp [compare, compareOfLessAndEq], decide_eq_false (by omega)]; rfl
  · rw [show compare a b = .gt from by simp [compare, compareOfLessAndEq, show ¬ a < b by omega, show ¬ a = b by omega], decide_eq_false (by omega)]; rfl
theorem cmp_eq (a b : Int) : (some (compare a b) == some Ordering.eq) = decide (a = b) := by
  rcases Int.lt_trichotomy a b with h | h | h
  · rw [show compare a b = .lt from by simp [compare, compareOfLessAndEq, h], decide_eq_false (by omega)]; rfl
  · subst h; rw [show compare a a = .eq from by simp [compare, compareOfLessAndEq], decide_eq_true rfl]; rfl
  · rw [show compare a b = .gt from by simp [compare, compareOfLessAndEq, show ¬ a < b by omega, show ¬ a = b by omega], decide_eq_false (by omega)]; rfl
theorem cmp_gt (a b : Int) : (some (compare a b) == some Ordering.gt) = decide (b < a) := by
  rcases Int.lt_trichotomy a b with h | h | h
  · rw [show compare a b = .lt from by simp [compare, compareOfLessAndEq, h], decide_eq_false (by omega)]; rfl
  · subst h; rw [show compare a a = .eq from by simp [compare, compareOfLessAndEq], decide_eq_false (by omega)]; rfl
  · rw [show compare a b = .gt from by simp [compare, compareOfLessAndEq, show ¬ a < b by omega, show ¬ a = b by omega], decide_eq_true (by omega)]; rfl
theorem f_gt {a b : Int} {w : Nat} (ha : okN a) (hb : okN b) (hw : w = flN b) : binA .gtr (.float .f64 (flN a)) (.float .f64 w) = some (.bool (decide (b < a))) := by
  subst hw; simp only [binA, fltA, Op.floatCmp, ord ha hb, cmp_gt, if_true, runN]; rfl
theorem f_eq {a b : Int} {w : Nat} (ha : okN a) (hb : okN b) (hw : w = flN b) : binA .eql (.float .f64 (flN a)) (.float .f64 w) = some (.bool (decide (a = b))) := by
  subst hw; simp only [binA, fltA, Op.floatCmp, ord ha hb, cmp_eq, if_true, runN]; rfl
theorem f_ge {a b : Int} {w : Nat} (ha : okN a) (hb : okN b) (hw : w = flN b) : binA .geq (.float .f64 (flN a)) (.float .f64 w) = some (.bool (decide (b ≤ a))) := by
  subst hw; simp only [binA, fltA, Op.floatCmp, ord ha hb, cmp_eq, cmp_gt, if_true, runN]
  rw [show (decide (b < a) || decide (a = b)) = decide (b ≤ a) from by rw [← Bool.decide_or]; exact decide_eq_decide.2 (by omega)]; rfl
theorem f_le {a b : Int} {w : Nat} (ha : okN a) (hb : okN b) (hw : w = flN b) : binA .leq (.float .f64 (flN a)) (.float .f64 w) = some (.bool (decide (a ≤ b))) := by
  subst hw; simp only [binA, fltA, Op.floatCmp, ord ha hb, cmp_eq, cmp_lt, if_true, runN]
  rw [show (decide (a < b) || decide (a = b)) = decide (a ≤ b) from by rw [← Bool.decide_or]; exact decide_eq_decide.2 (by omega)]; rfl
theorem c_eq {a b c d : Int} {w u : Nat} (ha : okN a) (hb : okN b) (hc : okN c) (hd : okN d) (hw : w = flN c) (hu : u = flN d) : binA .eql (.complex .f64 (flN a) (flN b)) (.complex .f64 w u) = some (.bool (decide (a = c ∧ b = d))) := by
  subst hw; subst hu
  simp only [binA, fltA, Op.complexOp, Op.Complex.cmp, Op.floatCmp, ord ha hc, ord hb hd, cmp_eq, if_true, runN]
  rw [Bool.decide_and]; rfl
theorem c_sub {a b c d : Int} (ha : okN a) (hb : okN b) (hc : okN c) (hd : okN d) (ha0 : 0 ≤ a) (hb0 : 0 ≤ b) (h1 : okN (a - c)) (h2 : okN (b - d)) : binA .sub (.complex .f64 (flN a) (flN b)) (.complex .f64 (flN c) (flN d)) = some (.complex .f64 (flN (a - c)) (flN (b - d))) := by
  have e1 : FloatKind.f64.format.sub (flN a) (flN c) = some (flN (a - c)) := sub_flN ha hc ha0 h1
  have e2 : FloatKind.f64.format.sub (flN b) (flN d) = some (flN (b - d)) := sub_flN hb hd hb0 h2
  simp only [binA, fltA, Op.complexOp, Op.Complex.arith, Op.floatArith, if_true, pure_bind, e1, e2, runN]
  rfl
/-! Keys. -/
abbrev K2 := Nat × Nat
@[reducible] def kE : Enc K2 := ⟨fun c => [.complex .f64 (flN c.1) (flN c.2)], 1, fun _ => rfl, by decide⟩
abbrev cK (c : K2) : Value := .complex .f64 (flN c.1) (flN c.2)
def okK (c : K2) : Prop := c.1 ≤ 1048576 ∧ c.2 ≤ 1048576
def ltK (a b : K2) : Prop := a.1 < b.1 ∨ (a.1 = b.1 ∧ a.2 < b.2)
instance (a b : K2) : Decidable (ltK a b) := by unfold ltK; exact inferInstance
theorem k_math_Trunc {n : Int} {H : Heap} {N X : Value → Heap → Prop} (h : okN n) (k : N (.float .f64 (flN n)) H) : ACall Try.prog 55 [.float .f64 (flN n)] H (EndK N X) := by
  refine call_math_Trunc (fun e => ?_)
  (repeat' (first | refine z0 ?_ | refine z1 ?_ | refine z2 ?_ | refine z3 ?_ | refine z4 ?_ | refine z6 ?_ | refine z11 ?_ | refine z12 ?_ | refine z16 ?_ | refine z17 ?_ | refine z88 (r_end ?_) | refine z89 (r_end ?_) | refine z90 (r_end ?_) | refine z91 (r_end ?_) | refine z92 (r_end ?_) | refine z93 (r_end ?_) | refine z94 (r_end ?_) | refine p_nat rfl (trunc_nat h) ?_ | refine z95 (fun _ => ?_) (fun _ => ?_) | refine z96 (fun _ => ?_) (fun _ => ?_) | refine z97 (fun _ => ?_) (fun _ => ?_)))
  exact k
theorem k_tour_whole {n : Int} {H : Heap} {N X : Value → Heap → Prop} (h0 : 0 ≤ n) (h1 : n ≤ 1048576) (k : N (.bool true) H) : ACall Try.prog 36 [.float .f64 (flN n)] H (EndK N X) := by
  refine call_tour_whole (fun e => ?_)
  have hn : okN n := by show n.natAbs < _; omega
  (repeat' (first | refine z0 ?_ | refine z1 ?_ | refine z2 ?_ | refine z3 ?_ | refine z4 ?_ | refine z6 ?_ | refine z11 ?_ | refine z12 ?_ | refine z18 ?_ | refine z19 ?_ | refine z20 ?_ | refine z24 ?_ | refine z25 ?_ | refine z28 ?_ | refine z31 ?_ | refine z33 ?_ | refine z36 ?_ | refine z88 (r_end ?_) | refine z89 (r_end ?_) | refine z90 (r_end ?_) | refine z91 (r_end ?_) | refine z92 (r_end ?_) | refine z93 (r_end ?_) | refine z94 (r_end ?_) | refine p_bin rfl rfl (f_ge hn (by decide : okN 0) (by decide)) ?_ | refine p_bin rfl rfl (f_le hn (by decide : okN 1048576) (by decide)) ?_ | refine p_call rfl (k_math_Trunc hn ?_) | refine p_bin rfl rfl (f_eq hn hn rfl) ?_ | refine z98 (fun _ => ?_) (fun _ => ?_) | refine z99 (fun _ => ?_) (fun _ => ?_) | refine z100 (fun _ => ?_) (fun _ => ?_) | refine z101 (fun _ => ?_) (fun _ => ?_) | refine z102 (fun _ => ?_) (fun _ => ?_) | refine z103 (fun _ => ?_) (fun _ => ?_)))
  all_goals first | (rw [decide_eq_true rfl]; exact k) | (exfalso; omega)
theorem k_tour_Right {c : K2} {H : Heap} {N X : Value → Heap → Prop} (h : okK c) (k : N (.bool true) H) : ACall Try.prog 18 [cK c] H (EndK N X) := by
  refine call_tour_Right (fun e => ?_)
  obtain ⟨h1, h2⟩ := h
  (repeat' (first | refine z0 ?_ | refine z1 ?_ | refine z2 ?_ | refine z3 ?_ | refine z4 ?_ | refine z6 ?_ | refine z11 ?_ | refine z12 ?_ | refine z18 ?_ | refine z19 ?_ | refine z20 ?_ | refine z24 ?_ | refine z25 ?_ | refine z74 ?_ | refine z75 ?_ | refine z88 (r_end ?_) | refine z89 (r_end ?_) | refine z90 (r_end ?_) | refine z91 (r_end ?_) | refine z92 (r_end ?_) | refine z93 (r_end ?_) | refine z94 (r_end ?_) | refine p_call rfl (k_tour_whole (by omega) (by omega) ?_) | refine z98 (fun _ => ?_) (fun _ => ?_) | refine z99 (fun _ => ?_) (fun _ => ?_) | refine z100 (fun _ => ?_) (fun _ => ?_) | refine z101 (fun _ => ?_) (fun _ => ?_) | refine z102 (fun _ => ?_) (fun _ => ?_) | refine z103 (fun _ => ?_) (fun _ => ?_)))
  exact k
def cmpS (a b : K2) : Int := if ltK a b then -1 else if a = b then 0 else 1
theorem cmp_m1 {a b : K2} (h : a.1 < b.1 ∨ (a.1 = b.1 ∧ a.2 < b.2)) : cmpS a b = -1 := if_pos h
theorem cmp_z {a b : K2} (h : a.1 = b.1 ∧ a.2 = b.2) : cmpS a b = 0 := by
  have : ¬ ltK a b := by unfold ltK; omega
  unfold cmpS; rw [if_neg this, if_pos (Prod.ext h.1 h.2)]
theorem cmp_p1 {a b : K2} (h : ¬ (a.1 < b.1 ∨ (a.1 = b.1 ∧ a.2 < b.2))) (h2 : ¬ (a.1 = b.1 ∧ a.2 = b.2)) : cmpS a b = 1 := by
  unfold cmpS; rw [if_neg (show ¬ ltK a b from h), if_neg (by rintro rfl; exact h2 ⟨rfl, rfl⟩)]
theorem k_tour_compare {a b : K2} {H : Heap} {N X : Value → Heap → Prop} (ha : okK a) (hb : okK b) (k : N (.int .i64 (cmpS a b)) H) : ACall Try.prog 27 [cK a, cK b] H (EndK N X) := by
  refine call_tour_compare (fun e => ?_)
  obtain ⟨ha1, ha2⟩ := ha
  obtain ⟨hb1, hb2⟩ := hb
  have o1 : okN (a.1 : Int) := by show (a.1 : Int).natAbs < _; omega
  have o2 : okN (a.2 : Int) := by show (a.2 : Int).natAbs < _; omega
  have o3 : okN (b.1 : Int) := by show (b.1 : Int).natAbs < _; omega
  have o4 : okN (b.2 : Int) := by show (b.2 : Int).natAbs < _; omega
  have o5 : okN ((b.1 : Int) - a.1) := by show ((b.1 : Int) - a.1).natAbs < _; omega
  have o6 : okN ((b.2 : Int) - a.2) := by show ((b.2 : Int) - a.2).natAbs < _; omega
  have o0 : okN 0 := by decide
  have w0 : (0 : Nat) = flN 0 := by decide
  have hs := c_sub o3 o4 o1 o2 (by omega) (by omega) o5 o6
  have g1 := f_gt o5 o0 w0
  have g2 := f_eq o5 o0 w0
  have g3 := f_gt o6 o0 w0
  have g4 := c_eq o5 o6 o0 o0 w0 w0
  (repeat' (first | refine z0 ?_ | refine z1 ?_ | refine z2 ?_ | refine z3 ?_ | refine z4 ?_ | refine z6 ?_ | refine z7 ?_ | refine z8 ?_ | refine z9 ?_ | refine z10 ?_ | refine z11 ?_ | refine z12 ?_ | refine z14 ?_ | refine z16 ?_ | refine z17 ?_ | refine z18 ?_ | refine z19 ?_ | refine z20 ?_ | refine z24 ?_ | refine z25 ?_ | refine z27 ?_ | refine z28 ?_ | refine z32 ?_ | refine z36 ?_ | refine z74 ?_ | refine z75 ?_ | refine z88 (r_end ?_) | refine z89 (r_end ?_) | refine z90 (r_end ?_) | refine z91 (r_end ?_) | refine z92 (r_end ?_) | refine z93 (r_end ?_) | refine z94 (r_end ?_) | refine p_bin rfl rfl hs ?_ | refine p_bin rfl rfl g1 ?_ | refine p_bin rfl rfl g2 ?_ | refine p_bin rfl rfl g3 ?_ | refine p_bin rfl rfl g4 ?_ | refine z95 (fun _ => ?_) (fun _ => ?_) | refine z96 (fun _ => ?_) (fun _ => ?_) | refine z97 (fun _ => ?_) (fun _ => ?_) | refine z98 (fun _ => ?_) (fun _ => ?_) | refine z99 (fun _ => ?_) (fun _ => ?_) | refine z100 (fun _ => ?_) (fun _ => ?_) | refine z101 (fun _ => ?_) (fun _ => ?_) | refine z102 (fun _ => ?_) (fun _ => ?_) | refine z103 (fun _ => ?_) (fun _ => ?_)))
  all_goals first
    | (rw [cmp_m1 (by omega)] at k; exact k)
    | (rw [cmp_z (by omega)] at k; exact k)
    | (rw [cmp_p1 (by omega) (by omega)] at k; exact k)
theorem cmp_ltK (a b : K2) : decide (cmpS a b < 0) = decide (ltK a b) := by
  unfold cmpS
  by_cases h : ltK a b
  · rw [if_pos h, decide_eq_true h]; rfl
  · rw [if_neg h, decide_eq_false h]; split <;> rfl
theorem cmp_geK (a b : K2) : decide (cmpS a b ≥ 0) = !decide (ltK a b) := by
  unfold cmpS
  by_cases h : ltK a b
  · rw [if_pos h, decide_eq_true h]; rfl
  · rw [if_neg h, decide_eq_false h]; split <;> rfl
theorem k_tour_Next_1 {c q : K2} {p : Value} {H : Heap} {N X : Value → Heap → Prop} (hq : okK q) (hc : okK c) (hp : ldA none H p = some (cK c)) (k : N (.bool (decide (ltK c q))) H) : ACall Try.prog 26 [cK q, p] H (EndK N X) := by
  refine call_tour_Next_1 (fun e => ?_)
  rw [← cmp_ltK] at k
  (repeat' (first | refine z0 ?_ | refine z1 ?_ | refine z2 ?_ | refine z3 ?_ | refine z4 ?_ | refine z6 ?_ | refine z11 ?_ | refine z12 ?_ | refine z18 ?_ | refine z19 ?_ | refine z20 ?_ | refine z24 ?_ | refine z25 ?_ | refine z30 ?_ | refine z41 ?_ | refine z43 ?_ | refine z53 ?_ | refine z54 ?_ | refine z55 ?_ | refine z56 ?_ | refine z57 ?_ | refine z58 ?_ | refine z59 ?_ | refine z60 ?_ | refine z61 ?_ | refine z62 ?_ | refine z65 ?_ | refine z88 (r_end ?_) | refine z89 (r_end ?_) | refine z90 (r_end ?_) | refine z91 (r_end ?_) | refine z92 (r_end ?_) | refine z93 (r_end ?_) | refine z94 (r_end ?_) | refine p_ld rfl hp ?_ | refine p_call rfl (k_tour_Right hc ?_) | refine p_call rfl (k_tour_compare hc hq ?_) | refine z98 (fun _ => ?_) (fun _ => ?_) | refine z99 (fun _ => ?_) (fun _ => ?_) | refine z100 (fun _ => ?_) (fun _ => ?_) | refine z101 (fun _ => ?_) (fun _ => ?_) | refine z102 (fun _ => ?_) (fun _ => ?_) | refine z103 (fun _ => ?_) (fun _ => ?_)))
  exact k
theorem k_tour_Prev_1 {c q : K2} {p : Value} {H : Heap} {N X : Value → Heap → Prop} (hq : okK q) (hc : okK c) (hp : ldA none H p = some (cK c)) (k : N (.bool (decide (ltK q c))) H) : ACall Try.prog 29 [cK q, p] H (EndK N X) := by
  refine call_tour_Prev_1 (fun e => ?_)
  rw [← cmp_ltK] at k
  (repeat' (first | refine z0 ?_ | refine z1 ?_ | refine z2 ?_ | refine z3 ?_ | refine z4 ?_ | refine z6 ?_ | refine z11 ?_ | refine z12 ?_ | refine z18 ?_ | refine z19 ?_ | refine z20 ?_ | refine z24 ?_ | refine z25 ?_ | refine z30 ?_ | refine z41 ?_ | refine z43 ?_ | refine z53 ?_ | refine z54 ?_ | refine z55 ?_ | refine z56 ?_ | refine z57 ?_ | refine z58 ?_ | refine z59 ?_ | refine z60 ?_ | refine z61 ?_ | refine z62 ?_ | refine z65 ?_ | refine z88 (r_end ?_) | refine z89 (r_end ?_) | refine z90 (r_end ?_) | refine z91 (r_end ?_) | refine z92 (r_end ?_) | refine z93 (r_end ?_) | refine z94 (r_end ?_) | refine p_ld rfl hp ?_ | refine p_call rfl (k_tour_Right hc ?_) | refine p_call rfl (k_tour_compare hq hc ?_) | refine z98 (fun _ => ?_) (fun _ => ?_) | refine z99 (fun _ => ?_) (fun _ => ?_) | refine z100 (fun _ => ?_) (fun _ => ?_) | refine z101 (fun _ => ?_) (fun _ => ?_) | refine z102 (fun _ => ?_) (fun _ => ?_) | refine z103 (fun _ => ?_) (fun _ => ?_)))
  exact k
theorem k_tour_Next_2 {a b : K2} {H : Heap} {N X : Value → Heap → Prop} (ha : okK a) (hb : okK b) (k : N (.bool (decide (ltK a b))) H) : ACall Try.prog 28 [cK a, cK b] H (EndK N X) := by
  refine call_tour_Next_2 (fun e => ?_)
  rw [← cmp_ltK] at k
  (repeat' (first | refine z0 ?_ | refine z1 ?_ | refine z2 ?_ | refine z3 ?_ | refine z4 ?_ | refine z6 ?_ | refine z11 ?_ | refine z12 ?_ | refine z30 ?_ | refine z88 (r_end ?_) | refine z89 (r_end ?_) | refine z90 (r_end ?_) | refine z91 (r_end ?_) | refine z92 (r_end ?_) | refine z93 (r_end ?_) | refine z94 (r_end ?_) | refine p_call rfl (k_tour_compare ha hb ?_)))
  exact k
theorem k_tour_Prev_2 {a b : K2} {H : Heap} {N X : Value → Heap → Prop} (ha : okK a) (hb : okK b) (k : N (.bool (!decide (ltK a b))) H) : ACall Try.prog 30 [cK a, cK b] H (EndK N X) := by
  refine call_tour_Prev_2 (fun e => ?_)
  rw [← cmp_geK] at k
  (repeat' (first | refine z0 ?_ | refine z1 ?_ | refine z2 ?_ | refine z3 ?_ | refine z4 ?_ | refine z6 ?_ | refine z11 ?_ | refine z12 ?_ | refine z33 ?_ | refine z88 (r_end ?_) | refine z89 (r_end ?_) | refine z90 (r_end ?_) | refine z91 (r_end ?_) | refine z92 (r_end ?_) | refine z93 (r_end ?_) | refine z94 (r_end ?_) | refine p_call rfl (k_tour_compare ha hb ?_)))
  exact k
theorem k_tour_step_1 {a : Value} {H : Heap} {N X : Value → Heap → Prop} (k : N (.bool true) H) : ACall Try.prog 39 [a] H (EndK N X) := by
  refine call_tour_step_1 (fun e => ?_)
  (repeat' (first | refine z0 ?_ | refine z1 ?_ | refine z2 ?_ | refine z3 ?_ | refine z4 ?_ | refine z6 ?_ | refine z11 ?_ | refine z12 ?_ | refine z88 (r_end ?_) | refine z89 (r_end ?_) | refine z90 (r_end ?_) | refine z91 (r_end ?_) | refine z92 (r_end ?_) | refine z93 (r_end ?_) | refine z94 (r_end ?_)))
  exact k
/-- The best of the keys, as one goes. -/
def bestI (keys : List K2) (tst : K2 → Bool) (bet : K2 → K2 → Bool) : Nat → Int
  | 0 => -1
  | i + 1 => if tst (gI keys i) = true ∧ (bestI keys tst bet i = -1 ∨ bet (gI keys i) (gI keys (bestI keys tst bet i)) = true) then i else bestI keys tst bet i
theorem bestI_range (keys : List K2) (tst : K2 → Bool) (bet : K2 → K2 → Bool) : ∀ i : Nat, bestI keys tst bet i = -1 ∨ (0 ≤ bestI keys tst bet i ∧ bestI keys tst bet i < i)
  | 0 => .inl rfl
  | i + 1 => by
    rcases bestI_range keys tst bet i with h | h <;> simp only [bestI] <;> split <;> omega
theorem bestI_t {keys : List K2} {tst : K2 → Bool} {bet : K2 → K2 → Bool} {i : Nat} (h1 : tst (gI keys i) = true) (h2 : bestI keys tst bet i = -1 ∨ bet (gI keys i) (gI keys (bestI keys tst bet i)) = true) : bestI keys tst bet (i + 1) = i := if_pos ⟨h1, h2⟩
theorem bestI_f {keys : List K2} {tst : K2 → Bool} {bet : K2 → K2 → Bool} {i : Nat} (h1 : ¬ bestI keys tst bet i = -1) (h2 : bet (gI keys i) (gI keys (bestI keys tst bet i)) = false) : bestI keys tst bet (i + 1) = bestI keys tst bet i := if_neg (by rw [h2]; simp [h1])
theorem bestI_n {keys : List K2} {tst : K2 → Bool} {bet : K2 → K2 → Bool} {i : Nat} (h1 : tst (gI keys i) = false) : bestI keys tst bet (i + 1) = bestI keys tst bet i := if_neg (by rw [h1]; simp)
theorem k_tour_best {v ft fb : Value} {keys : List K2} {tst : K2 → Bool} {bet : K2 → K2 → Bool} {f g : FuncId} {cf cg : List Value} {H : Heap} {N X : Value → Heap → Prop} (hv : IsS kE H v keys) (hk : ∀ q ∈ keys, okK q) (hn : keys.length ≤ 1000)
    (hf : ∀ q, calleeA ft [q] = some (f, q :: cf)) (hg : ∀ a b, calleeA fb [a, b] = some (g, a :: b :: cg)) (hcf : ∀ q, okK q → ∀ M Y : Value → Heap → Prop, M (.bool (tst q)) H → ACall Try.prog f (cK q :: cf) H (EndK M Y))
    (hcg : ∀ a b, okK a → okK b → ∀ M Y : Value → Heap → Prop, M (.bool (bet a b)) H → ACall Try.prog g (cK a :: cK b :: cg) H (EndK M Y)) (k : N (.int .i64 (bestI keys tst bet keys.length)) H) : ACall Try.prog 38 [v, ft, fb] H (EndK N X) := by
  refine call_tour_best (fun e => ?_)
  have hp0 := Hp.refl H
  have hl := hv.len
  (repeat' (first | refine z0 ?_ | refine z1 ?_ | refine z2 ?_ | refine z3 ?_ | refine z4 ?_ | refine z5 ?_ | refine z6 ?_ | refine z7 ?_ | refine z8 ?_ | refine z9 ?_ | refine z10 ?_ | refine z11 ?_ | refine z12 ?_ | refine z13 ?_ | refine z14 ?_ | refine z16 ?_ | refine z17 ?_ | refine z18 ?_ | refine z19 ?_ | refine z20 ?_ | refine z24 ?_ | refine z25 ?_ | refine z26 ?_ | refine z28 ?_ | refine z30 ?_ | refine z36 ?_ | refine z48 ?_ | refine z49 ?_ | refine z50 ?_ | refine z51 ?_ | refine z52 ?_ | refine z53 ?_ | refine z54 ?_ | refine z55 ?_ | refine z56 ?_ | refine z57 ?_ | refine z58 ?_ | refine z59 ?_ | refine z60 ?_ | refine z61 ?_ | refine z62 ?_ | refine z65 ?_ | refine z88 (r_end ?_) | refine z89 (r_end ?_) | refine z90 (r_end ?_) | refine z91 (r_end ?_) | refine z92 (r_end ?_) | refine z93 (r_end ?_) | refine z94 (r_end ?_) | refine z95 (fun _ => ?_) (fun _ => ?_) | refine z96 (fun _ => ?_) (fun _ => ?_) | refine z97 (fun _ => ?_) (fun _ => ?_) | refine z98 (fun _ => ?_) (fun _ => ?_) | refine z99 (fun _ => ?_) (fun _ => ?_) | refine z100 (fun _ => ?_) (fun _ => ?_) | refine z101 (fun _ => ?_) (fun _ => ?_) | refine z102 (fun _ => ?_) (fun _ => ?_) | refine z103 (fun _ => ?_) (fun _ => ?_)))
  refine lp2 7 12 [0, 1, 2, 10, 11] (fun v7 v12 H' n => ∃ (i : Nat), v7 = .int .i64 (bestI keys tst bet i) ∧ v12 = .int .i64 i ∧ i ≤ keys.length ∧ H = H' ∧ n = keys.length - i) rfl rfl rfl rfl _ ⟨0, rfl, rfl, by omega, rfl, rfl⟩ ?_
  rintro _ _ _ n e' ⟨i, rfl, rfl, hi, rfl, rfl⟩
  have hr := bestI_range keys tst bet i
  have hki : i < keys.length → okK (gI keys i) := fun h => hk _ (gI_mem (by omega) (by omega))
  have hkb : ¬ bestI keys tst bet i = -1 → okK (gI keys (bestI keys tst bet i)) := fun h => hk _ (gI_mem (by omega) (by omega))
  (repeat' (first | refine z0 ?_ | refine z1 ?_ | refine z2 ?_ | refine z3 ?_ | refine z4 ?_ | refine z5 ?_ | refine z6 ?_ | refine z7 ?_ | refine z8 ?_ | refine z9 ?_ | refine z10 ?_ | refine z11 ?_ | refine z12 ?_ | refine z13 ?_ | refine z14 ?_ | refine z16 ?_ | refine z17 ?_ | refine z18 ?_ | refine z19 ?_ | refine z20 ?_ | refine z24 ?_ | refine z25 ?_ | refine z26 ?_ | refine z28 ?_ | refine z30 ?_ | refine z36 ?_ | refine z48 ?_ | refine z49 ?_ | refine z50 ?_ | refine z51 ?_ | refine z52 ?_ | refine z53 ?_ | refine z54 ?_ | refine z55 ?_ | refine z56 ?_ | refine z57 ?_ | refine z58 ?_ | refine z59 ?_ | refine z60 ?_ | refine z61 ?_ | refine z62 ?_ | refine z65 ?_ | refine z88 (r_end ?_) | refine z89 (r_end ?_) | refine z90 (r_end ?_) | refine z91 (r_end ?_) | refine z92 (r_end ?_) | refine z93 (r_end ?_) | refine z94 (r_end ?_) | refine p_call rfl (k_tour_Right (hki (by omega)) ?_) | refine p_dyn rfl rfl (hf _) (hcf (gI keys i) (hki (by omega)) _ _ ?_) | refine p_dyn rfl rfl (hg _ _) (hcg (gI keys i) (gI keys (bestI keys tst bet i)) (hki (by omega)) (hkb (by assumption)) _ _ ?_) | refine z95 (fun _ => ?_) (fun _ => ?_) | refine z96 (fun _ => ?_) (fun _ => ?_) | refine z97 (fun _ => ?_) (fun _ => ?_) | refine z98 (fun _ => ?_) (fun _ => ?_) | refine z99 (fun _ => ?_) (fun _ => ?_) | refine z100 (fun _ => ?_) (fun _ => ?_) | refine z101 (fun _ => ?_) (fun _ => ?_) | refine z102 (fun _ => ?_) (fun _ => ?_) | refine z103 (fun _ => ?_) (fun _ => ?_)))
  · exact lpE rfl ⟨keys.length - (i + 1), by omega, i + 1, by rw [bestI_t (by assumption) (.inl (by assumption))], rfl, by omega, rfl, rfl⟩
  · exact lpE rfl ⟨keys.length - (i + 1), by omega, i + 1, by rw [bestI_t (by assumption) (.inr (by assumption))], rfl, by omega, rfl, rfl⟩
  · exact lpE rfl ⟨keys.length - (i + 1), by omega, i + 1, by rw [bestI_f (by assumption) (by assumption)], rfl, by omega, rfl, rfl⟩
  · exact lpE rfl ⟨keys.length - (i + 1), by omega, i + 1, by rw [bestI_n (by assumption)], rfl, by omega, rfl, rfl⟩
  · obtain rfl : i = keys.length := by omega
    exact k
def stepS (keys : List K2) (tst : K2 → Bool) (bet : K2 → K2 → Bool) : Int × Bool :=
  if bestI keys tst bet keys.length = -1 then (bestI keys (fun _ => true) bet keys.length, decide (¬ bestI keys (fun _ => true) bet keys.length = -1)) else (bestI keys tst bet keys.length, false)
theorem stepS_1 {keys : List K2} {tst : K2 → Bool} {bet : K2 → K2 → Bool} (h : ¬ bestI keys tst bet keys.length = -1) : stepS keys tst bet = (bestI keys tst bet keys.length, false) := if_neg h
theorem stepS_2 {keys : List K2} {tst : K2 → Bool} {bet : K2 → K2 → Bool} (h : bestI keys tst bet keys.length = -1) : stepS keys tst bet = (bestI keys (fun _ => true) bet keys.length, decide (¬ bestI keys (fun _ => true) bet keys.length = -1)) := if_pos h
theorem k_tour_step {v ft fb : Value} {keys : List K2} {tst : K2 → Bool} {bet : K2 → K2 → Bool} {f g : FuncId} {cf cg : List Value} {H : Heap} {N X : Value → Heap → Prop} (hv : IsS kE H v keys) (hk : ∀ q ∈ keys, okK q) (hn : keys.length ≤ 1000)
    (hf : ∀ q, calleeA ft [q] = some (f, q :: cf)) (hg : ∀ a b, calleeA fb [a, b] = some (g, a :: b :: cg)) (hcf : ∀ q, okK q → ∀ M Y : Value → Heap → Prop, M (.bool (tst q)) H → ACall Try.prog f (cK q :: cf) H (EndK M Y))
    (hcg : ∀ a b, okK a → okK b → ∀ M Y : Value → Heap → Prop, M (.bool (bet a b)) H → ACall Try.prog g (cK a :: cK b :: cg) H (EndK M Y)) (k : N (.tuple #[.int .i64 (stepS keys tst bet).1, .bool (stepS keys tst bet).2]) H) : ACall Try.prog 25 [v, ft, fb] H (EndK N X) := by
  refine call_tour_step (fun e => ?_)
  (repeat' (first | refine z0 ?_ | refine z1 ?_ | refine z2 ?_ | refine z3 ?_ | refine z4 ?_ | refine z6 ?_ | refine z11 ?_ | refine z12 ?_ | refine z16 ?_ | refine z17 ?_ | refine z29 ?_ | refine z88 (r_end ?_) | refine z89 (r_end ?_) | refine z90 (r_end ?_) | refine z91 (r_end ?_) | refine z92 (r_end ?_) | refine z93 (r_end ?_) | refine z94 (r_end ?_) | refine p_call rfl (k_tour_best hv hk hn hf hg hcf hcg ?_) | refine p_call rfl (k_tour_best (ft := .func (.func 39) #[] #[]) (tst := fun _ => true) (f := 39) (cf := []) hv hk hn (fun _ => rfl) hg (fun q _ M Y h => k_tour_step_1 h) hcg ?_) | refine z95 (fun _ => ?_) (fun _ => ?_) | refine z96 (fun _ => ?_) (fun _ => ?_) | refine z97 (fun _ => ?_) (fun _ => ?_)))
  · rw [stepS_1 (by assumption)] at k; exact k
  · rw [stepS_2 (by assumption)] at k; exact k
def nextS (keys : List K2) (c : K2) : Int × Bool := stepS keys (fun q => decide (ltK c q)) (fun a b => decide (ltK a b))
def prevS (keys : List K2) (c : K2) : Int × Bool := stepS keys (fun q => decide (ltK q c)) (fun a b => !decide (ltK a b))
theorem k_tour_Next {v : Value} {keys : List K2} {c : K2} {H : Heap} {N X : Value → Heap → Prop} (hv : IsS kE H v keys) (hk : ∀ q ∈ keys, okK q) (hn : keys.length ≤ 1000) (hc : okK c)
    (k : ∀ H', Fr H H' → N (.tuple #[.int .i64 (nextS keys c).1, .bool (nextS keys c).2]) H') : ACall Try.prog 13 [v, cK c] H (EndK N X) := by
  refine call_tour_Next (fun e => ?_)
  have hp0 := Hp.refl H
  (repeat' (first | refine z0 ?_ | refine z1 ?_ | refine z2 ?_ | refine z3 ?_ | refine z4 ?_ | refine z6 ?_ | refine z11 ?_ | refine z12 ?_ | refine z68 ?_ | refine z72 ?_ | refine z80 fun _ _ _ => ?_ | refine z88 (r_end ?_) | refine z89 (r_end ?_) | refine z90 (r_end ?_) | refine z91 (r_end ?_) | refine z92 (r_end ?_) | refine z93 (r_end ?_) | refine z94 (r_end ?_)))
  rename_i b H1 hp
  (repeat' (first | refine z0 ?_ | refine z1 ?_ | refine z2 ?_ | refine z3 ?_ | refine z4 ?_ | refine z6 ?_ | refine z11 ?_ | refine z12 ?_ | refine z68 ?_ | refine z72 ?_ | refine z80 fun _ _ _ => ?_ | refine z88 (r_end ?_) | refine z89 (r_end ?_) | refine z90 (r_end ?_) | refine z91 (r_end ?_) | refine z92 (r_end ?_) | refine z93 (r_end ?_) | refine z94 (r_end ?_) | refine p_call rfl (k_tour_step (hv.fr hp.fr) hk hn (fun _ => rfl) (fun _ _ => rfl) (fun q hq M Y h => k_tour_Next_1 hq hc (Hp.ldB hp (by first | exact .head _ | exact .tail _ (.head _) | exact .tail _ (.tail _ (.head _)) | exact .tail _ (.tail _ (.tail _ (.head _))) | exact .tail _ (.tail _ (.tail _ (.tail _ (.head _)))) | exact .tail _ (.tail _ (.tail _ (.tail _ (.tail _ (.head _)))))) rfl) h) (fun a b ha hb M Y h => k_tour_Next_2 ha hb h) ?_)))
  exact k _ hp.fr
theorem k_tour_Prev {v : Value} {keys : List K2} {c : K2} {H : Heap} {N X : Value → Heap → Prop} (hv : IsS kE H v keys) (hk : ∀ q ∈ keys, okK q) (hn : keys.length ≤ 1000) (hc : okK c)
    (k : ∀ H', Fr H H' → N (.tuple #[.int .i64 (prevS keys c).1, .bool (prevS keys c).2]) H') : ACall Try.prog 14 [v, cK c] H (EndK N X) := by
  refine call_tour_Prev (fun e => ?_)
  have hp0 := Hp.refl H
  (repeat' (first | refine z0 ?_ | refine z1 ?_ | refine z2 ?_ | refine z3 ?_ | refine z4 ?_ | refine z6 ?_ | refine z11 ?_ | refine z12 ?_ | refine z68 ?_ | refine z72 ?_ | refine z80 fun _ _ _ => ?_ | refine z88 (r_end ?_) | refine z89 (r_end ?_) | refine z90 (r_end ?_) | refine z91 (r_end ?_) | refine z92 (r_end ?_) | refine z93 (r_end ?_) | refine z94 (r_end ?_)))
  rename_i b H1 hp
  (repeat' (first | refine z0 ?_ | refine z1 ?_ | refine z2 ?_ | refine z3 ?_ | refine z4 ?_ | refine z6 ?_ | refine z11 ?_ | refine z12 ?_ | refine z68 ?_ | refine z72 ?_ | refine z80 fun _ _ _ => ?_ | refine z88 (r_end ?_) | refine z89 (r_end ?_) | refine z90 (r_end ?_) | refine z91 (r_end ?_) | refine z92 (r_end ?_) | refine z93 (r_end ?_) | refine z94 (r_end ?_) | refine p_call rfl (k_tour_step (hv.fr hp.fr) hk hn (fun _ => rfl) (fun _ _ => rfl) (fun q hq M Y h => k_tour_Prev_1 hq hc (Hp.ldB hp (by first | exact .head _ | exact .tail _ (.head _) | exact .tail _ (.tail _ (.head _)) | exact .tail _ (.tail _ (.tail _ (.head _))) | exact .tail _ (.tail _ (.tail _ (.tail _ (.head _)))) | exact .tail _ (.tail _ (.tail _ (.tail _ (.tail _ (.head _)))))) rfl) h) (fun a b ha hb M Y h => k_tour_Prev_2 ha hb h) ?_)))
  exact k _ hp.fr
end Go.Proofs.Ytlfihcndchjgcaa
