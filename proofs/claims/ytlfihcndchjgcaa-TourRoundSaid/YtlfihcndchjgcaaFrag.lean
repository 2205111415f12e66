/- Own text of this session: Frag. -/
import Derived.Test.YtlfihcndchjgcaaCode
set_option linter.unusedVariables false
set_option linter.unusedSimpArgs false
namespace Go.Proofs.Ytlfihcndchjgcaa
open Go Go.Ab
structure RowL where
  lo : Int
  hi : Int
  seen : Value
instance : Inhabited RowL := ⟨⟨0, 0, .slice none 0 0⟩⟩
@[reducible] def rowE : Enc RowL := ⟨fun r => [.int .i64 r.lo, .int .i64 r.hi, r.seen], 3, fun _ => rfl, by decide⟩
structure Spn where
  lo : Int
  hi : Int
instance : Inhabited Spn := ⟨⟨0, 0⟩⟩
@[reducible] def spnE : Enc Spn := ⟨fun r => [.int .i64 r.lo, .int .i64 r.hi], 2, fun _ => rfl, by decide⟩
@[reducible] def cxE : Enc (Nat × Nat) := ⟨fun c => [.complex .f64 c.1 c.2], 1, fun _ => rfl, by decide⟩
/-- Rows, and what is seen of each. -/
structure RowsOk (H : Heap) (v : Value) (rs : List RowL) (ss : List (List Int)) : Prop where
  is : IsS rowE H v rs
  len : rs.length = ss.length
  seen : ∀ i : Int, IsS intE H (gI rs i).seen (gI ss i)
theorem RowsOk.fr {H H' : Heap} {v : Value} {rs : List RowL} {ss : List (List Int)} (h : RowsOk H v rs ss) (r : Fr H H') : RowsOk H' v rs ss := ⟨h.is.fr r, h.len, fun i => (h.seen i).fr r⟩
def Small (ss : List (List Int)) : Prop := ss.length ≤ 1000000 ∧ ∀ s ∈ ss, s.length ≤ 1000000
theorem Small.at {ss : List (List Int)} (h : Small ss) (i : Int) : (gI ss i).length ≤ 1000000 := by
  by_cases hi : i.toNat < ss.length
  · have : gI ss i ∈ ss := by
      simp only [gI, List.getD_eq_getElem?_getD, List.getElem?_eq_getElem hi]; exact List.getElem_mem _
    exact h.2 _ this
  · have : gI ss i = [] := by simp only [gI, List.getD_eq_getElem?_getD, List.getElem?_eq_none (by omega : ss.length ≤ i.toNat)]; rfl
    rw [this]; simp
/-- The first place of a number; -1: none. -/
def idxS : List Int → Int → Nat → Int
  | [], _, _ => -1
  | x :: l, p, k => if p = x then k else idxS l p (k + 1)
theorem idxS_bound : ∀ (l : List Int) (p : Int) (k : Nat), idxS l p k = -1 ∨ (k ≤ idxS l p k ∧ idxS l p k < k + l.length)
  | [], p, k => .inl rfl
  | x :: l, p, k => by
    simp only [idxS]
    split
    · right; simp; omega
    · rcases idxS_bound l p (k + 1) with h | h
      · exact .inl h
      · right; simp; omega
theorem k_slices_Index {v : Value} {l : List Int} {p : Int} {H : Heap} {N X : Value → Heap → Prop} (hl : IsS intE H v l) (hn : l.length ≤ 1000000) (k : N (.int .i64 (idxS l p 0)) H) : ACall Try.prog 37 [v, .int .i64 p] H (EndK N X) := by
  refine call_slices_Index_int_int (fun e => ?_)
  (repeat' (first | refine z0 ?_ | refine z1 ?_ | refine z2 ?_ | refine z3 ?_ | refine z4 ?_ | refine z5 ?_ | refine z6 ?_ | refine z7 ?_ | refine z8 ?_ | refine z9 ?_ | refine z10 ?_ | refine z11 ?_ | refine z12 ?_ | refine z13 ?_ | refine z14 ?_ | refine z16 ?_ | refine z17 ?_ | refine z26 ?_ | refine z28 ?_ | refine z30 ?_ | refine z36 ?_ | refine z48 ?_ | refine z49 ?_ | refine z50 ?_ | refine z51 ?_ | refine z52 ?_ | refine z53 ?_ | refine z54 ?_ | refine z55 ?_ | refine z56 ?_ | refine z57 ?_ | refine z58 ?_ | refine z59 ?_ | refine z60 ?_ | refine z61 ?_ | refine z62 ?_ | refine z65 ?_ | refine z88 (r_end ?_) | refine z89 (r_end ?_) | refine z90 (r_end ?_) | refine z91 (r_end ?_) | refine z92 (r_end ?_) | refine z93 (r_end ?_) | refine z94 (r_end ?_) | refine z95 (fun _ => ?_) (fun _ => ?_) | refine z96 (fun _ => ?_) (fun _ => ?_) | refine z97 (fun _ => ?_) (fun _ => ?_)))
  refine lp1 8 [0, 1, 7] (fun v8 H' n => ∃ i : Nat, v8 = .int .i64 i ∧ i ≤ l.length ∧ idxS (l.drop i) p i = idxS l p 0 ∧ H' = H ∧ n = l.length - i) rfl rfl rfl l.length ⟨0, rfl, by omega, rfl, rfl, rfl⟩ ?_
  rintro _ _ n e' ⟨i, rfl, hi, hr, rfl, rfl⟩
  have hg := drop_gI (xs := l) (i := i)
  (repeat' (first | refine z0 ?_ | refine z1 ?_ | refine z2 ?_ | refine z3 ?_ | refine z4 ?_ | refine z5 ?_ | refine z6 ?_ | refine z7 ?_ | refine z8 ?_ | refine z9 ?_ | refine z10 ?_ | refine z11 ?_ | refine z12 ?_ | refine z13 ?_ | refine z14 ?_ | refine z16 ?_ | refine z17 ?_ | refine z26 ?_ | refine z28 ?_ | refine z30 ?_ | refine z36 ?_ | refine z48 ?_ | refine z49 ?_ | refine z50 ?_ | refine z51 ?_ | refine z52 ?_ | refine z53 ?_ | refine z54 ?_ | refine z55 ?_ | refine z56 ?_ | refine z57 ?_ | refine z58 ?_ | refine z59 ?_ | refine z60 ?_ | refine z61 ?_ | refine z62 ?_ | refine z65 ?_ | refine z88 (r_end ?_) | refine z89 (r_end ?_) | refine z90 (r_end ?_) | refine z91 (r_end ?_) | refine z92 (r_end ?_) | refine z93 (r_end ?_) | refine z94 (r_end ?_) | refine z95 (fun _ => ?_) (fun _ => ?_) | refine z96 (fun _ => ?_) (fun _ => ?_) | refine z97 (fun _ => ?_) (fun _ => ?_)))
  · rw [hg (by omega), idxS, if_pos (by assumption)] at hr
    rw [← hr] at k; exact k
  · rw [hg (by omega), idxS, if_neg (by assumption)] at hr
    exact lpE rfl ⟨l.length - (i + 1), by omega, i + 1, rfl, by omega, hr, rfl, rfl⟩
  · rw [List.drop_eq_nil_of_le (by omega)] at hr
    rw [← hr] at k; exact k
/-- Where a place is seen: the row, the column; -1: nowhere. -/
def placeS : List (List Int) → Int → Nat → Int × Int
  | [], _, _ => (-1, -1)
  | s :: ss, p, r => if 0 ≤ idxS s p 0 then ((r : Int), idxS s p 0) else placeS ss p (r + 1)
theorem k_frag_Place {v : Value} {rs : List RowL} {ss : List (List Int)} {p : Int} {H : Heap} {N X : Value → Heap → Prop} (hr : RowsOk H v rs ss) (hn : Small ss) (k : ∀ H', Fr H H' → N (.tuple #[.int .i64 (placeS ss p 0).1, .int .i64 (placeS ss p 0).2]) H') : ACall Try.prog 23 [v, .int .i64 p] H (EndK N X) := by
  refine call_frag_Place (fun e => ?_)
  have hp0 := Hp.refl H
  have hi' := hr.is
  have hlen := hr.len
  have hsl := hn.1
  (repeat' (first | refine z0 ?_ | refine z1 ?_ | refine z2 ?_ | refine z3 ?_ | refine z4 ?_ | refine z5 ?_ | refine z6 ?_ | refine z7 ?_ | refine z8 ?_ | refine z9 ?_ | refine z10 ?_ | refine z11 ?_ | refine z12 ?_ | refine z13 ?_ | refine z14 ?_ | refine z16 ?_ | refine z17 ?_ | refine z26 ?_ | refine z30 ?_ | refine z33 ?_ | refine z48 ?_ | refine z49 ?_ | refine z50 ?_ | refine z51 ?_ | refine z52 ?_ | refine z53 ?_ | refine z54 ?_ | refine z55 ?_ | refine z56 ?_ | refine z57 ?_ | refine z58 ?_ | refine z59 ?_ | refine z60 ?_ | refine z61 ?_ | refine z62 ?_ | refine z63 ?_ | refine z64 fun _ _ => ?_ | refine z65 ?_ | refine z79 fun _ _ _ => ?_ | refine z84 fun _ _ => ?_ | refine z88 (r_end ?_) | refine z89 (r_end ?_) | refine z90 (r_end ?_) | refine z91 (r_end ?_) | refine z92 (r_end ?_) | refine z93 (r_end ?_) | refine z94 (r_end ?_) | refine z95 (fun _ => ?_) (fun _ => ?_) | refine z96 (fun _ => ?_) (fun _ => ?_) | refine z97 (fun _ => ?_) (fun _ => ?_)))
  refine lp1 11 [1, 9, 10] (fun v11 H' n => ∃ i : Nat, v11 = .int .i64 i ∧ i ≤ rs.length ∧ placeS (ss.drop i) p i = placeS ss p 0 ∧ Hp H H' [] ∧ n = rs.length - i) rfl rfl rfl rs.length ⟨0, rfl, by omega, rfl, hp0, rfl⟩ ?_
  rintro _ H1 n e' ⟨i, rfl, hi, hq, hp, rfl⟩
  have hg := drop_gI (xs := ss) (i := i)
  have hs := hr.seen i
  have hsz := hn.at i
  (repeat' (first | refine z0 ?_ | refine z1 ?_ | refine z2 ?_ | refine z3 ?_ | refine z4 ?_ | refine z5 ?_ | refine z6 ?_ | refine z7 ?_ | refine z8 ?_ | refine z9 ?_ | refine z10 ?_ | refine z11 ?_ | refine z12 ?_ | refine z13 ?_ | refine z14 ?_ | refine z16 ?_ | refine z17 ?_ | refine z26 ?_ | refine z30 ?_ | refine z33 ?_ | refine z48 ?_ | refine z49 ?_ | refine z50 ?_ | refine z51 ?_ | refine z52 ?_ | refine z53 ?_ | refine z54 ?_ | refine z55 ?_ | refine z56 ?_ | refine z57 ?_ | refine z58 ?_ | refine z59 ?_ | refine z60 ?_ | refine z61 ?_ | refine z62 ?_ | refine z63 ?_ | refine z64 fun _ _ => ?_ | refine z65 ?_ | refine z79 fun _ _ _ => ?_ | refine z84 fun _ _ => ?_ | refine z88 (r_end ?_) | refine z89 (r_end ?_) | refine z90 (r_end ?_) | refine z91 (r_end ?_) | refine z92 (r_end ?_) | refine z93 (r_end ?_) | refine z94 (r_end ?_) | refine p_call rfl (k_slices_Index (by first | assumption | exact (IsS.fr (by assumption) (Hp.fr (by assumption)))) (by assumption) ?_) | refine z95 (fun _ => ?_) (fun _ => ?_) | refine z96 (fun _ => ?_) (fun _ => ?_) | refine z97 (fun _ => ?_) (fun _ => ?_)))
  · rw [hg (by omega), placeS, if_pos (by assumption)] at hq
    have k2 := k _ (Hp.fr (by assumption))
    rw [← hq] at k2; exact k2
  · rw [hg (by omega), placeS, if_neg (by assumption)] at hq
    exact lpE rfl ⟨rs.length - (i + 1), by omega, i + 1, rfl, by omega, hq, Hp.zero (by assumption), rfl⟩
  · rw [List.drop_eq_nil_of_le (by omega)] at hq
    have k2 := k _ hp.fr
    rw [← hq] at k2; exact k2
theorem k_r24_Place {v : Value} {rs : List RowL} {ss : List (List Int)} {p : Int} {H : Heap} {N X : Value → Heap → Prop} (hr : RowsOk H v rs ss) (hn : Small ss) (k : N (.tuple #[.int .i64 (placeS ss p 0).1, .int .i64 (placeS ss p 0).2]) H) : ACall Try.prog 24 [v, .int .i64 p] H (EndK N X) := by
  refine call_r24_Place (fun e => ?_)
  have hi' := hr.is
  have hlen := hr.len
  have hsl := hn.1
  (repeat' (first | refine z0 ?_ | refine z1 ?_ | refine z2 ?_ | refine z3 ?_ | refine z4 ?_ | refine z5 ?_ | refine z6 ?_ | refine z7 ?_ | refine z8 ?_ | refine z9 ?_ | refine z10 ?_ | refine z11 ?_ | refine z12 ?_ | refine z13 ?_ | refine z14 ?_ | refine z16 ?_ | refine z17 ?_ | refine z26 ?_ | refine z28 ?_ | refine z30 ?_ | refine z36 ?_ | refine z48 ?_ | refine z49 ?_ | refine z50 ?_ | refine z51 ?_ | refine z52 ?_ | refine z53 ?_ | refine z54 ?_ | refine z55 ?_ | refine z56 ?_ | refine z57 ?_ | refine z58 ?_ | refine z59 ?_ | refine z60 ?_ | refine z61 ?_ | refine z62 ?_ | refine z63 ?_ | refine z65 ?_ | refine z88 (r_end ?_) | refine z89 (r_end ?_) | refine z90 (r_end ?_) | refine z91 (r_end ?_) | refine z92 (r_end ?_) | refine z93 (r_end ?_) | refine z94 (r_end ?_) | refine z95 (fun _ => ?_) (fun _ => ?_) | refine z96 (fun _ => ?_) (fun _ => ?_) | refine z97 (fun _ => ?_) (fun _ => ?_)))
  refine lp1 6 [0, 1] (fun v6 H' n => ∃ i : Nat, v6 = .int .i64 i ∧ i ≤ rs.length ∧ placeS (ss.drop i) p i = placeS ss p 0 ∧ H = H' ∧ n = rs.length - i) rfl rfl rfl rs.length ⟨0, rfl, by omega, rfl, rfl, rfl⟩ ?_
  rintro _ _ n e' ⟨i, rfl, hi, hq, rfl, rfl⟩
  have hg := drop_gI (xs := ss) (i := i)
  have hs := hr.seen i
  have hsz := hn.at i
  (repeat' (first | refine z0 ?_ | refine z1 ?_ | refine z2 ?_ | refine z3 ?_ | refine z4 ?_ | refine z5 ?_ | refine z6 ?_ | refine z7 ?_ | refine z8 ?_ | refine z9 ?_ | refine z10 ?_ | refine z11 ?_ | refine z12 ?_ | refine z13 ?_ | refine z14 ?_ | refine z16 ?_ | refine z17 ?_ | refine z26 ?_ | refine z28 ?_ | refine z30 ?_ | refine z36 ?_ | refine z48 ?_ | refine z49 ?_ | refine z50 ?_ | refine z51 ?_ | refine z52 ?_ | refine z53 ?_ | refine z54 ?_ | refine z55 ?_ | refine z56 ?_ | refine z57 ?_ | refine z58 ?_ | refine z59 ?_ | refine z60 ?_ | refine z61 ?_ | refine z62 ?_ | refine z63 ?_ | refine z65 ?_ | refine z88 (r_end ?_) | refine z89 (r_end ?_) | refine z90 (r_end ?_) | refine z91 (r_end ?_) | refine z92 (r_end ?_) | refine z93 (r_end ?_) | refine z94 (r_end ?_) | refine z95 (fun _ => ?_) (fun _ => ?_) | refine z96 (fun _ => ?_) (fun _ => ?_) | refine z97 (fun _ => ?_) (fun _ => ?_)))
  · refine lp1 7 [0, 1, 6] (fun v7 H' n => ∃ j : Nat, v7 = .int .i64 j ∧ j ≤ (gI ss i).length ∧ idxS ((gI ss i).drop j) p j = idxS (gI ss i) p 0 ∧ H = H' ∧ n = (gI ss i).length - j) rfl rfl rfl (gI ss i).length ⟨0, rfl, by omega, rfl, rfl, rfl⟩ ?_
    rintro _ _ n e2 ⟨j, rfl, hj, hqj, rfl, rfl⟩
    have hgj := drop_gI (xs := gI ss i) (i := j)
    (repeat' (first | refine z0 ?_ | refine z1 ?_ | refine z2 ?_ | refine z3 ?_ | refine z4 ?_ | refine z5 ?_ | refine z6 ?_ | refine z7 ?_ | refine z8 ?_ | refine z9 ?_ | refine z10 ?_ | refine z11 ?_ | refine z12 ?_ | refine z13 ?_ | refine z14 ?_ | refine z16 ?_ | refine z17 ?_ | refine z26 ?_ | refine z28 ?_ | refine z30 ?_ | refine z36 ?_ | refine z48 ?_ | refine z49 ?_ | refine z50 ?_ | refine z51 ?_ | refine z52 ?_ | refine z53 ?_ | refine z54 ?_ | refine z55 ?_ | refine z56 ?_ | refine z57 ?_ | refine z58 ?_ | refine z59 ?_ | refine z60 ?_ | refine z61 ?_ | refine z62 ?_ | refine z63 ?_ | refine z65 ?_ | refine z88 (r_end ?_) | refine z89 (r_end ?_) | refine z90 (r_end ?_) | refine z91 (r_end ?_) | refine z92 (r_end ?_) | refine z93 (r_end ?_) | refine z94 (r_end ?_) | refine z95 (fun _ => ?_) (fun _ => ?_) | refine z96 (fun _ => ?_) (fun _ => ?_) | refine z97 (fun _ => ?_) (fun _ => ?_)))
    · have he : gI (gI ss i) j = p := by assumption
      rw [hgj (by omega), idxS, if_pos he.symm] at hqj
      rw [hg (by omega), placeS, if_pos (by omega)] at hq
      rw [← hq, ← hqj] at k; exact k
    · have he : ¬ gI (gI ss i) j = p := by assumption
      rw [hgj (by omega), idxS, if_neg (fun h => he h.symm)] at hqj
      exact lpE rfl ⟨(gI ss i).length - (j + 1), by omega, j + 1, rfl, by omega, hqj, rfl, rfl⟩
    · rw [List.drop_eq_nil_of_le (by omega)] at hqj
      rw [hg (by omega), placeS, if_neg (by rw [← hqj]; simp [idxS])] at hq
      exact lpE rfl ⟨rs.length - (i + 1), by omega, i + 1, rfl, by omega, hq, rfl, rfl⟩
  · rw [List.drop_eq_nil_of_le (by omega)] at hq
    rw [← hq] at k; exact k
def sumS : List (List Int) → Int
  | [] => 0
  | s :: ss => s.length + sumS ss
theorem sumS_nonneg : ∀ ss, 0 ≤ sumS ss
  | [] => by simp [sumS]
  | s :: ss => by have := sumS_nonneg ss; simp only [sumS]; omega
theorem sumS_flat : ∀ ss : List (List Int), sumS ss = ss.flatten.length
  | [] => rfl
  | s :: ss => by simp only [sumS, List.flatten_cons, List.length_append, sumS_flat ss]; omega
/-- Are rows few? -/
theorem k_r24_Great {v : Value} {rs : List RowL} {ss : List (List Int)} {H : Heap} {N X : Value → Heap → Prop} (hr : RowsOk H v rs ss) (hn : ss.length ≤ 140737488355328) (hn2 : ∀ i : Int, (gI ss i).length ≤ 140737488355328) (k : ∀ b : Bool, (b = false → ss.length ≤ 500 ∧ (∀ s ∈ ss, s.length ≤ 500) ∧ ss.flatten.length ≤ 500) → N (.bool b) H) : ACall Try.prog 7 [v] H (EndK N X) := by
  refine call_r24_Great (fun e => ?_)
  have hi' := hr.is
  have hlen := hr.len
  (repeat' (first | refine z0 ?_ | refine z1 ?_ | refine z2 ?_ | refine z3 ?_ | refine z4 ?_ | refine z5 ?_ | refine z6 ?_ | refine z7 ?_ | refine z8 ?_ | refine z9 ?_ | refine z10 ?_ | refine z11 ?_ | refine z12 ?_ | refine z13 ?_ | refine z14 ?_ | refine z16 ?_ | refine z17 ?_ | refine z18 ?_ | refine z19 ?_ | refine z20 ?_ | refine z24 ?_ | refine z25 ?_ | refine z26 ?_ | refine z30 ?_ | refine z31 ?_ | refine z32 ?_ | refine z48 ?_ | refine z49 ?_ | refine z50 ?_ | refine z51 ?_ | refine z52 ?_ | refine z53 ?_ | refine z54 ?_ | refine z55 ?_ | refine z56 ?_ | refine z57 ?_ | refine z58 ?_ | refine z59 ?_ | refine z60 ?_ | refine z61 ?_ | refine z62 ?_ | refine z63 ?_ | refine z65 ?_ | refine z88 (r_end ?_) | refine z89 (r_end ?_) | refine z90 (r_end ?_) | refine z91 (r_end ?_) | refine z92 (r_end ?_) | refine z93 (r_end ?_) | refine z94 (r_end ?_) | refine z95 (fun _ => ?_) (fun _ => ?_) | refine z96 (fun _ => ?_) (fun _ => ?_) | refine z97 (fun _ => ?_) (fun _ => ?_) | refine z98 (fun _ => ?_) (fun _ => ?_) | refine z99 (fun _ => ?_) (fun _ => ?_) | refine z100 (fun _ => ?_) (fun _ => ?_) | refine z101 (fun _ => ?_) (fun _ => ?_) | refine z102 (fun _ => ?_) (fun _ => ?_) | refine z103 (fun _ => ?_) (fun _ => ?_)))
  refine lp2 3 4 [0] (fun v3 v4 H' n => ∃ (i : Nat) (m : Int), v4 = .int .i64 i ∧ v3 = .int .i64 m ∧ i ≤ rs.length ∧ (m ≤ 500 → m = rs.length + sumS (ss.take i)) ∧ (500 < m → m ≤ 281474976710656) ∧ 0 ≤ m ∧ H = H' ∧ n = rs.length - i) rfl rfl rfl rfl rs.length
    ⟨0, rs.length, rfl, rfl, by omega, fun _ => by simp [sumS], by omega, by omega, rfl, rfl⟩ ?_
  rintro _ _ _ n e' ⟨i, m, rfl, rfl, hi, hm1, hm2, hm3, rfl, rfl⟩
  have hg := drop_gI (xs := ss) (i := i)
  have hs := hr.seen i
  have hsz := hn2 i
  have happ : ∀ (a b : List (List Int)), sumS (a ++ b) = sumS a + sumS b := by
    intro a b
    induction a with
    | nil => simp [sumS]
    | cons x a ih => simp only [List.cons_append, sumS, ih]; omega
  (repeat' (first | refine z0 ?_ | refine z1 ?_ | refine z2 ?_ | refine z3 ?_ | refine z4 ?_ | refine z5 ?_ | refine z6 ?_ | refine z7 ?_ | refine z8 ?_ | refine z9 ?_ | refine z10 ?_ | refine z11 ?_ | refine z12 ?_ | refine z13 ?_ | refine z14 ?_ | refine z16 ?_ | refine z17 ?_ | refine z18 ?_ | refine z19 ?_ | refine z20 ?_ | refine z24 ?_ | refine z25 ?_ | refine z26 ?_ | refine z30 ?_ | refine z31 ?_ | refine z32 ?_ | refine z48 ?_ | refine z49 ?_ | refine z50 ?_ | refine z51 ?_ | refine z52 ?_ | refine z53 ?_ | refine z54 ?_ | refine z55 ?_ | refine z56 ?_ | refine z57 ?_ | refine z58 ?_ | refine z59 ?_ | refine z60 ?_ | refine z61 ?_ | refine z62 ?_ | refine z63 ?_ | refine z65 ?_ | refine z88 (r_end ?_) | refine z89 (r_end ?_) | refine z90 (r_end ?_) | refine z91 (r_end ?_) | refine z92 (r_end ?_) | refine z93 (r_end ?_) | refine z94 (r_end ?_) | refine z95 (fun _ => ?_) (fun _ => ?_) | refine z96 (fun _ => ?_) (fun _ => ?_) | refine z97 (fun _ => ?_) (fun _ => ?_) | refine z98 (fun _ => ?_) (fun _ => ?_) | refine z99 (fun _ => ?_) (fun _ => ?_) | refine z100 (fun _ => ?_) (fun _ => ?_) | refine z101 (fun _ => ?_) (fun _ => ?_) | refine z102 (fun _ => ?_) (fun _ => ?_) | refine z103 (fun _ => ?_) (fun _ => ?_)))
  · refine lpE rfl ⟨rs.length - (i + 1), by omega, i + 1, _, rfl, rfl, by omega, fun h => ?_, by omega, by omega, rfl, rfl⟩
    have := hm1 (by omega)
    rw [take_gI (by omega), happ]; simp only [sumS]; omega
  · refine k _ (fun h => ?_)
    have := of_decide_eq_false h
    omega
  · refine k _ (fun h => ?_)
    have h1 := of_decide_eq_false h
    have h2 := hm1 (by omega)
    rw [List.take_of_length_le (by omega)] at h2
    have hb : ∀ (l : List (List Int)), ∀ s ∈ l, (s.length : Int) ≤ sumS l := by
      intro l
      induction l with
      | nil => simp
      | cons x l ih =>
        intro s hs
        have := sumS_nonneg l
        rcases List.mem_cons.1 hs with rfl | hs
        · simp only [sumS]; omega
        · have := ih s hs; simp only [sumS]; omega
    have := sumS_nonneg ss
    have hfl := sumS_flat ss
    refine ⟨by omega, fun s hs => ?_, by omega⟩
    have := hb ss s hs
    omega
end Go.Proofs.Ytlfihcndchjgcaa
