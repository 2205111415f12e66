/- Own text of this session: TourA. -/
import Derived.Test.YtlfihcndchjgcaaFrag
set_option linter.unusedVariables false
set_option linter.unusedSimpArgs false
namespace Go.Proofs.Ytlfihcndchjgcaa
open Go Go.Ab
/-- 'float64' of a whole number, as its word. -/
abbrev fl (n : Int) : Nat := FloatKind.nearest .f64 n
def noKey : Nat × Nat := (13830554455654793216, 0)
def keyS (ss : List (List Int)) (base p : Int) : Nat × Nat :=
  let q := placeS ss p 0
  if q.1 < 0 then noKey else
  let c := if base = 0 then q.2 else (gI ss q.1).length - q.2 - 1
  if 1048576 < q.1 ∨ 1048576 < c then noKey else (fl q.1, fl c)
theorem keyS_none {ss : List (List Int)} {b p : Int} (h : (placeS ss p 0).1 < 0) : keyS ss b p = noKey := by simp only [keyS]; rw [if_pos h]
theorem keyS_far {ss : List (List Int)} {b p : Int} (c : Int) (h : ¬ (placeS ss p 0).1 < 0) (hc : (b = 0 ∧ c = (placeS ss p 0).2) ∨ (¬ b = 0 ∧ c = (gI ss (placeS ss p 0).1).length - (placeS ss p 0).2 - 1)) (hf : 1048576 < (placeS ss p 0).1 ∨ 1048576 < c) : keyS ss b p = noKey := by
  simp only [keyS]; rw [if_neg h]
  rcases hc with ⟨h1, h2⟩ | ⟨h1, h2⟩
  · rw [if_pos h1, ← h2, if_pos hf]
  · rw [if_neg h1, ← h2, if_pos hf]
theorem keyS_key {ss : List (List Int)} {b p : Int} (c : Int) (h : ¬ (placeS ss p 0).1 < 0) (hc : (b = 0 ∧ c = (placeS ss p 0).2) ∨ (¬ b = 0 ∧ c = (gI ss (placeS ss p 0).1).length - (placeS ss p 0).2 - 1)) (hf : ¬ (1048576 < (placeS ss p 0).1 ∨ 1048576 < c)) : keyS ss b p = (fl (placeS ss p 0).1, fl c) := by
  simp only [keyS]; rw [if_neg h]
  rcases hc with ⟨h1, h2⟩ | ⟨h1, h2⟩
  · rw [if_pos h1, ← h2, if_neg hf]
  · rw [if_neg h1, ← h2, if_neg hf]
theorem placeS_bound : ∀ (ss : List (List Int)) (p : Int) (r : Nat), placeS ss p r = (-1, -1) ∨ ((r : Int) ≤ (placeS ss p r).1 ∧ (placeS ss p r).1 < r + ss.length ∧ 0 ≤ (placeS ss p r).2 ∧ (placeS ss p r).2 < (gI ss ((placeS ss p r).1 - r)).length)
  | [], p, r => .inl rfl
  | s :: ss, p, r => by
    simp only [placeS]
    split
    · rename_i h
      right
      have h0 : gI (s :: ss) (((r : Int), idxS s p 0).1 - r) = s := by simp [gI]
      rw [h0]
      rcases idxS_bound s p 0 with h1 | h1
      · omega
      · simp; omega
    · rcases placeS_bound ss p (r + 1) with h | ⟨h1, h2, h3, h4⟩
      · exact .inl h
      · right
        have h5 : gI (s :: ss) ((placeS ss p (r + 1)).1 - r) = gI ss ((placeS ss p (r + 1)).1 - (r + 1 : Nat)) := by
          simp only [gI]
          rw [show ((placeS ss p (r + 1)).1 - (r : Int)).toNat = ((placeS ss p (r + 1)).1 - (r + 1 : Nat)).toNat + 1 from by omega]
          simp
        rw [h5]
        refine ⟨by omega, by simp; omega, h3, h4⟩
theorem k_tour_Key {v : Value} {rs : List RowL} {ss : List (List Int)} {b p : Int} {H : Heap} {N X : Value → Heap → Prop} (hr : RowsOk H v rs ss) (hn : Small ss) (k : ∀ H', Fr H H' → N (.complex .f64 (keyS ss b p).1 (keyS ss b p).2) H') : ACall Try.prog 11 [v, .int .i64 b, .int .i64 p] H (EndK N X) := by
  refine call_tour_Key (fun e => ?_)
  have hp0 := Hp.refl H
  have hi' := hr.is
  have hlen := hr.len
  have hsl := hn.1
  have hb := placeS_bound ss p 0
  have hs := hr.seen (placeS ss p 0).1
  have hsz := hn.at (placeS ss p 0).1
  have hb1 : ¬ (placeS ss p 0).1 < 0 → (placeS ss p 0).1 < rs.length ∧ 0 ≤ (placeS ss p 0).2 ∧ (placeS ss p 0).2 < (gI ss (placeS ss p 0).1).length := by
    intro h
    rcases hb with h1 | ⟨_, h2, h3, h4⟩
    · rw [h1] at h; simp at h
    · rw [show (placeS ss p 0).1 - ((0 : Nat) : Int) = (placeS ss p 0).1 from by omega] at h4
      exact ⟨by omega, h3, h4⟩
  (repeat' (first | refine z0 ?_ | refine z1 ?_ | refine z2 ?_ | refine z3 ?_ | refine z4 ?_ | refine z6 ?_ | refine z11 ?_ | refine z12 ?_ | refine z16 ?_ | refine z17 ?_ | refine z27 ?_ | refine z29 ?_ | refine z30 ?_ | refine z32 ?_ | refine z44 ?_ | refine z48 ?_ | refine z49 ?_ | refine z50 ?_ | refine z51 ?_ | refine z52 ?_ | refine z53 ?_ | refine z54 ?_ | refine z55 ?_ | refine z56 ?_ | refine z57 ?_ | refine z58 ?_ | refine z59 ?_ | refine z60 ?_ | refine z61 ?_ | refine z62 ?_ | refine z63 ?_ | refine z65 ?_ | refine z68 ?_ | refine z76 ?_ | refine z77 ?_ | refine z88 (r_end ?_) | refine z89 (r_end ?_) | refine z90 (r_end ?_) | refine z91 (r_end ?_) | refine z92 (r_end ?_) | refine z93 (r_end ?_) | refine z94 (r_end ?_) | refine p_call rfl (k_frag_Place hr hn (Hp.then (by assumption) (fun _ _ => ?_))) | refine z95 (fun _ => ?_) (fun _ => ?_) | refine z96 (fun _ => ?_) (fun _ => ?_) | refine z97 (fun _ => ?_) (fun _ => ?_)))
  all_goals (have k2 := k _ (Hp.fr (by assumption)))
  all_goals first
    | (rw [keyS_none (by assumption)] at k2; exact k2)
    | (rw [keyS_far ((gI ss (placeS ss p 0).1).length - (placeS ss p 0).2 - 1) (by assumption) (by omega) (by omega)] at k2; exact k2)
    | (rw [keyS_far (placeS ss p 0).2 (by assumption) (by omega) (by omega)] at k2; exact k2)
    | (rw [keyS_key ((gI ss (placeS ss p 0).1).length - (placeS ss p 0).2 - 1) (by assumption) (by omega) (by omega)] at k2; exact k2)
    | (rw [keyS_key (placeS ss p 0).2 (by assumption) (by omega) (by omega)] at k2; exact k2)
theorem k_r25_Key {v : Value} {rs : List RowL} {ss : List (List Int)} {b p : Int} {H : Heap} {N X : Value → Heap → Prop} (hr : RowsOk H v rs ss) (hn : Small ss) (k : N (.complex .f64 (keyS ss b p).1 (keyS ss b p).2) H) : ACall Try.prog 12 [v, .int .i64 b, .int .i64 p] H (EndK N X) := by
  refine call_r25_Key (fun e => ?_)
  have hi' := hr.is
  have hlen := hr.len
  have hsl := hn.1
  have hb := placeS_bound ss p 0
  have hs := hr.seen (placeS ss p 0).1
  have hsz := hn.at (placeS ss p 0).1
  have hb1 : ¬ (placeS ss p 0).1 < 0 → (placeS ss p 0).1 < rs.length ∧ 0 ≤ (placeS ss p 0).2 ∧ (placeS ss p 0).2 < (gI ss (placeS ss p 0).1).length := by
    intro h
    rcases hb with h1 | ⟨_, h2, h3, h4⟩
    · rw [h1] at h; simp at h
    · rw [show (placeS ss p 0).1 - ((0 : Nat) : Int) = (placeS ss p 0).1 from by omega] at h4
      exact ⟨by omega, h3, h4⟩
  (repeat' (first | refine z0 ?_ | refine z1 ?_ | refine z2 ?_ | refine z3 ?_ | refine z4 ?_ | refine z6 ?_ | refine z11 ?_ | refine z12 ?_ | refine z16 ?_ | refine z17 ?_ | refine z18 ?_ | refine z19 ?_ | refine z20 ?_ | refine z24 ?_ | refine z25 ?_ | refine z27 ?_ | refine z29 ?_ | refine z30 ?_ | refine z32 ?_ | refine z48 ?_ | refine z49 ?_ | refine z50 ?_ | refine z51 ?_ | refine z52 ?_ | refine z53 ?_ | refine z54 ?_ | refine z55 ?_ | refine z56 ?_ | refine z57 ?_ | refine z58 ?_ | refine z59 ?_ | refine z60 ?_ | refine z61 ?_ | refine z62 ?_ | refine z63 ?_ | refine z65 ?_ | refine z68 ?_ | refine z76 ?_ | refine z77 ?_ | refine z88 (r_end ?_) | refine z89 (r_end ?_) | refine z90 (r_end ?_) | refine z91 (r_end ?_) | refine z92 (r_end ?_) | refine z93 (r_end ?_) | refine z94 (r_end ?_) | refine p_call rfl (k_r24_Place hr hn ?_) | refine z95 (fun _ => ?_) (fun _ => ?_) | refine z96 (fun _ => ?_) (fun _ => ?_) | refine z97 (fun _ => ?_) (fun _ => ?_) | refine z98 (fun _ => ?_) (fun _ => ?_) | refine z99 (fun _ => ?_) (fun _ => ?_) | refine z100 (fun _ => ?_) (fun _ => ?_) | refine z101 (fun _ => ?_) (fun _ => ?_) | refine z102 (fun _ => ?_) (fun _ => ?_) | refine z103 (fun _ => ?_) (fun _ => ?_)))
  all_goals first
    | (rw [keyS_none (by assumption)] at k; exact k)
    | (rw [keyS_far ((gI ss (placeS ss p 0).1).length - (placeS ss p 0).2 - 1) (by assumption) (by omega) (by omega)] at k; exact k)
    | (rw [keyS_far (placeS ss p 0).2 (by assumption) (by omega) (by omega)] at k; exact k)
    | (rw [keyS_key ((gI ss (placeS ss p 0).1).length - 1 - (placeS ss p 0).2) (by assumption) (by omega) (by omega)] at k; exact k)
    | (rw [keyS_key (placeS ss p 0).2 (by assumption) (by omega) (by omega)] at k; exact k)
/-- The least place of a span that is seen, as one goes. -/
def stp (lo hi : Int) (acc : Option Int) (p : Int) : Option Int := if lo ≤ p ∧ p < hi then (match acc with | none => some p | some q => if p < q then some p else some q) else acc
def frst (lo hi : Int) (l : List Int) (acc : Option Int) : Option Int := l.foldl (stp lo hi) acc
theorem stp_none {lo hi p : Int} {acc : Option Int} (h1 : lo ≤ p) (h2 : p < hi) (h3 : (!acc.isSome) = true) : stp lo hi acc p = some p := by
  cases acc with
  | none => simp [stp, h1, h2]
  | some q => simp at h3
theorem stp_lt {lo hi p : Int} {acc : Option Int} (h1 : lo ≤ p) (h2 : p < hi) (h3 : (!acc.isSome) = false) (h4 : p < acc.getD 0) : stp lo hi acc p = some p := by
  cases acc with
  | none => simp at h3
  | some q => simp only [Option.getD_some] at h4; simp [stp, h1, h2, h4]
theorem stp_ge {lo hi p : Int} {acc : Option Int} (h3 : (!acc.isSome) = false) (h4 : ¬ p < acc.getD 0) : stp lo hi acc p = acc := by
  cases acc with
  | none => simp at h3
  | some q => simp only [Option.getD_some] at h4; simp only [stp]; rw [if_neg h4]; split <;> rfl
theorem stp_out {lo hi p : Int} {acc : Option Int} (h : ¬ (lo ≤ p ∧ p < hi)) : stp lo hi acc p = acc := if_neg h
theorem k_r25_first {v : Value} {rs : List RowL} {ss : List (List Int)} {s : Spn} {H : Heap} {N X : Value → Heap → Prop} (hr : RowsOk H v rs ss) (hn : Small ss)
    (k : ∀ H', Fr H H' → N (.tuple #[.int .i64 ((frst s.lo s.hi ss.flatten none).getD 0), .bool (frst s.lo s.hi ss.flatten none).isSome]) H') : ACall Try.prog 22 [v, .agg (spnE.enc s).toArray] H (EndK N X) := by
  refine call_r25_first (fun e => ?_)
  have hp0 := Hp.refl H
  have hi' := hr.is
  have hlen := hr.len
  have hsl := hn.1
  (repeat' (first | refine z0 ?_ | refine z1 ?_ | refine z2 ?_ | refine z3 ?_ | refine z4 ?_ | refine z5 ?_ | refine z6 ?_ | refine z7 ?_ | refine z8 ?_ | refine z9 ?_ | refine z10 ?_ | refine z11 ?_ | refine z12 ?_ | refine z13 ?_ | refine z14 ?_ | refine z16 ?_ | refine z17 ?_ | refine z18 ?_ | refine z19 ?_ | refine z20 ?_ | refine z24 ?_ | refine z25 ?_ | refine z26 ?_ | refine z30 ?_ | refine z33 ?_ | refine z41 ?_ | refine z43 ?_ | refine z48 ?_ | refine z49 ?_ | refine z50 ?_ | refine z51 ?_ | refine z52 ?_ | refine z53 ?_ | refine z54 ?_ | refine z55 ?_ | refine z56 ?_ | refine z57 ?_ | refine z58 ?_ | refine z59 ?_ | refine z60 ?_ | refine z61 ?_ | refine z62 ?_ | refine z63 ?_ | refine z65 ?_ | refine z80 fun _ _ _ => ?_ | refine z88 (r_end ?_) | refine z89 (r_end ?_) | refine z90 (r_end ?_) | refine z91 (r_end ?_) | refine z92 (r_end ?_) | refine z93 (r_end ?_) | refine z94 (r_end ?_) | refine z95 (fun _ => ?_) (fun _ => ?_) | refine z96 (fun _ => ?_) (fun _ => ?_) | refine z97 (fun _ => ?_) (fun _ => ?_) | refine z98 (fun _ => ?_) (fun _ => ?_) | refine z99 (fun _ => ?_) (fun _ => ?_) | refine z100 (fun _ => ?_) (fun _ => ?_) | refine z101 (fun _ => ?_) (fun _ => ?_) | refine z102 (fun _ => ?_) (fun _ => ?_) | refine z103 (fun _ => ?_) (fun _ => ?_)))
  rename_i b H1 hp1
  refine lp3 6 7 8 [0, 3] (fun v6 v7 v8 H' n => ∃ (i : Nat), v8 = .int .i64 i ∧ v6 = .int .i64 ((frst s.lo s.hi (ss.take i).flatten none).getD 0) ∧ v7 = .bool (frst s.lo s.hi (ss.take i).flatten none).isSome ∧ i ≤ rs.length ∧ H1 = H' ∧ n = rs.length - i) rfl rfl rfl rfl rfl rs.length ⟨0, rfl, rfl, rfl, by omega, rfl, rfl⟩ ?_
  rintro _ _ _ _ n e' ⟨i, rfl, rfl, rfl, hi, rfl, rfl⟩
  have hs := (hr.seen i).fr hp1.fr
  have hsz := hn.at i
  (repeat' (first | refine z0 ?_ | refine z1 ?_ | refine z2 ?_ | refine z3 ?_ | refine z4 ?_ | refine z5 ?_ | refine z6 ?_ | refine z7 ?_ | refine z8 ?_ | refine z9 ?_ | refine z10 ?_ | refine z11 ?_ | refine z12 ?_ | refine z13 ?_ | refine z14 ?_ | refine z16 ?_ | refine z17 ?_ | refine z18 ?_ | refine z19 ?_ | refine z20 ?_ | refine z24 ?_ | refine z25 ?_ | refine z26 ?_ | refine z30 ?_ | refine z33 ?_ | refine z41 ?_ | refine z43 ?_ | refine z48 ?_ | refine z49 ?_ | refine z50 ?_ | refine z51 ?_ | refine z52 ?_ | refine z53 ?_ | refine z54 ?_ | refine z55 ?_ | refine z56 ?_ | refine z57 ?_ | refine z58 ?_ | refine z59 ?_ | refine z60 ?_ | refine z61 ?_ | refine z62 ?_ | refine z63 ?_ | refine z65 ?_ | refine z80 fun _ _ _ => ?_ | refine z88 (r_end ?_) | refine z89 (r_end ?_) | refine z90 (r_end ?_) | refine z91 (r_end ?_) | refine z92 (r_end ?_) | refine z93 (r_end ?_) | refine z94 (r_end ?_) | refine z95 (fun _ => ?_) (fun _ => ?_) | refine z96 (fun _ => ?_) (fun _ => ?_) | refine z97 (fun _ => ?_) (fun _ => ?_) | refine z98 (fun _ => ?_) (fun _ => ?_) | refine z99 (fun _ => ?_) (fun _ => ?_) | refine z100 (fun _ => ?_) (fun _ => ?_) | refine z101 (fun _ => ?_) (fun _ => ?_) | refine z102 (fun _ => ?_) (fun _ => ?_) | refine z103 (fun _ => ?_) (fun _ => ?_)))
  · refine lp3 6 7 9 [0, 3, 8] (fun v6 v7 v9 H' n => ∃ (j : Nat) (acc : Option Int), v9 = .int .i64 j ∧ v6 = .int .i64 (acc.getD 0) ∧ v7 = .bool acc.isSome ∧ acc = frst s.lo s.hi ((gI ss i).take j) (frst s.lo s.hi (ss.take i).flatten none) ∧ j ≤ (gI ss i).length ∧ H1 = H' ∧ n = (gI ss i).length - j) rfl rfl rfl rfl rfl (gI ss i).length ⟨0, _, rfl, rfl, rfl, rfl, by omega, rfl, rfl⟩ ?_
    rintro _ _ _ _ n e2 ⟨j, acc, rfl, rfl, rfl, hacc, hj, rfl, rfl⟩
    have hstep : ∀ h : j < (gI ss i).length, frst s.lo s.hi ((gI ss i).take (j + 1)) (frst s.lo s.hi (ss.take i).flatten none) = stp s.lo s.hi acc (gI (gI ss i) j) := by
      intro h
      rw [take_gI h, hacc]; simp only [frst, List.foldl_append]; rfl
    (repeat' (first | refine z0 ?_ | refine z1 ?_ | refine z2 ?_ | refine z3 ?_ | refine z4 ?_ | refine z5 ?_ | refine z6 ?_ | refine z7 ?_ | refine z8 ?_ | refine z9 ?_ | refine z10 ?_ | refine z11 ?_ | refine z12 ?_ | refine z13 ?_ | refine z14 ?_ | refine z16 ?_ | refine z17 ?_ | refine z18 ?_ | refine z19 ?_ | refine z20 ?_ | refine z24 ?_ | refine z25 ?_ | refine z26 ?_ | refine z30 ?_ | refine z33 ?_ | refine z41 ?_ | refine z43 ?_ | refine z48 ?_ | refine z49 ?_ | refine z50 ?_ | refine z51 ?_ | refine z52 ?_ | refine z53 ?_ | refine z54 ?_ | refine z55 ?_ | refine z56 ?_ | refine z57 ?_ | refine z58 ?_ | refine z59 ?_ | refine z60 ?_ | refine z61 ?_ | refine z62 ?_ | refine z63 ?_ | refine z65 ?_ | refine z80 fun _ _ _ => ?_ | refine z88 (r_end ?_) | refine z89 (r_end ?_) | refine z90 (r_end ?_) | refine z91 (r_end ?_) | refine z92 (r_end ?_) | refine z93 (r_end ?_) | refine z94 (r_end ?_) | refine z95 (fun _ => ?_) (fun _ => ?_) | refine z96 (fun _ => ?_) (fun _ => ?_) | refine z97 (fun _ => ?_) (fun _ => ?_) | refine z98 (fun _ => ?_) (fun _ => ?_) | refine z99 (fun _ => ?_) (fun _ => ?_) | refine z100 (fun _ => ?_) (fun _ => ?_) | refine z101 (fun _ => ?_) (fun _ => ?_) | refine z102 (fun _ => ?_) (fun _ => ?_) | refine z103 (fun _ => ?_) (fun _ => ?_)))
    all_goals first
      | (have hq := stp_none (lo := s.lo) (hi := s.hi) (p := gI (gI ss i) j) (acc := acc) (by assumption) (by assumption) (by assumption)
         exact lpE rfl ⟨(gI ss i).length - (j + 1), by omega, j + 1, some (gI (gI ss i) j), rfl, rfl, rfl, by rw [hstep (by omega), hq], by omega, rfl, rfl⟩)
      | (have hq := stp_lt (lo := s.lo) (hi := s.hi) (p := gI (gI ss i) j) (acc := acc) (by assumption) (by assumption) (by assumption) (by assumption)
         exact lpE rfl ⟨(gI ss i).length - (j + 1), by omega, j + 1, some (gI (gI ss i) j), rfl, rfl, rfl, by rw [hstep (by omega), hq], by omega, rfl, rfl⟩)
      | (have hq := stp_ge (lo := s.lo) (hi := s.hi) (p := gI (gI ss i) j) (acc := acc) (by assumption) (by assumption)
         exact lpE rfl ⟨(gI ss i).length - (j + 1), by omega, j + 1, acc, rfl, rfl, rfl, by rw [hstep (by omega), hq], by omega, rfl, rfl⟩)
      | (have hq := stp_out (lo := s.lo) (hi := s.hi) (p := gI (gI ss i) j) (acc := acc) (by omega)
         exact lpE rfl ⟨(gI ss i).length - (j + 1), by omega, j + 1, acc, rfl, rfl, rfl, by rw [hstep (by omega), hq], by omega, rfl, rfl⟩)
      | skip
    rw [List.take_of_length_le (by omega)] at hacc
    have hfl : frst s.lo s.hi (ss.take (i + 1)).flatten none = acc := by
      rw [take_gI (by omega), hacc]; simp [frst, List.foldl_append]
    exact lpE rfl ⟨rs.length - (i + 1), by omega, i + 1, rfl, by rw [hfl], by rw [hfl], by omega, rfl, rfl⟩
  · have k2 := k _ hp1.fr
    rw [List.take_of_length_le (by omega)]; exact k2
/-- The keys of spans. -/
def spanKey (ss : List (List Int)) (base : Int) (s : Spn) : Nat × Nat := match frst s.lo s.hi ss.flatten none with | some p => keyS ss base p | none => noKey
theorem k_r25_Keys {v u : Value} {rs : List RowL} {ss : List (List Int)} {b : Int} {sp : List Spn} {H : Heap} {N X : Value → Heap → Prop} (hr : RowsOk H v rs ss) (hn : Small ss) (hu : IsS spnE H u sp) (hsp : sp.length ≤ 1000)
    (k : ∀ v' H', Hp H H' [.sl 1 v' (cxE.all (sp.map (spanKey ss b)))] → N v' H') : ACall Try.prog 10 [v, .int .i64 b, u] H (EndK N X) := by
  refine call_r25_Keys (fun e => ?_)
  have hp0 := (Hp.refl H).nil 1
  (repeat' (first | refine z0 ?_ | refine z1 ?_ | refine z2 ?_ | refine z3 ?_ | refine z4 ?_ | refine z5 ?_ | refine z6 ?_ | refine z7 ?_ | refine z8 ?_ | refine z9 ?_ | refine z10 ?_ | refine z11 ?_ | refine z12 ?_ | refine z13 ?_ | refine z14 ?_ | refine z16 ?_ | refine z17 ?_ | refine z26 ?_ | refine z30 ?_ | refine z48 ?_ | refine z49 ?_ | refine z50 ?_ | refine z51 ?_ | refine z52 ?_ | refine z53 ?_ | refine z54 ?_ | refine z55 ?_ | refine z56 ?_ | refine z57 ?_ | refine z58 ?_ | refine z59 ?_ | refine z60 ?_ | refine z61 ?_ | refine z62 ?_ | refine z65 ?_ | refine z68 ?_ | refine z78 fun _ _ _ => ?_ | refine z81 fun _ _ _ => ?_ | refine z82 fun _ _ _ => ?_ | refine z83 fun _ _ _ => ?_ | refine z88 (r_end ?_) | refine z89 (r_end ?_) | refine z90 (r_end ?_) | refine z91 (r_end ?_) | refine z92 (r_end ?_) | refine z93 (r_end ?_) | refine z94 (r_end ?_) | refine z95 (fun _ => ?_) (fun _ => ?_) | refine z96 (fun _ => ?_) (fun _ => ?_) | refine z97 (fun _ => ?_) (fun _ => ?_)))
  refine lp2 7 8 [0, 1, 2] (fun v7 v8 H' n => ∃ (i : Nat), v8 = .int .i64 i ∧ i ≤ sp.length ∧ Hp H H' [.sl 1 v7 (cxE.all ((sp.take i).map (spanKey ss b)))] ∧ n = sp.length - i) rfl rfl rfl rfl sp.length ⟨0, rfl, by omega, by simpa using hp0, rfl⟩ ?_
  rintro v7 _ H1 n e' ⟨i, rfl, hi, hp, rfl⟩
  have hr1 := hr.fr hp.fr
  have hm : ((sp.take i).map (spanKey ss b)).length ≤ 1000 := by simp; omega
  (repeat' (first | refine z0 ?_ | refine z1 ?_ | refine z2 ?_ | refine z3 ?_ | refine z4 ?_ | refine z5 ?_ | refine z6 ?_ | refine z7 ?_ | refine z8 ?_ | refine z9 ?_ | refine z10 ?_ | refine z11 ?_ | refine z12 ?_ | refine z13 ?_ | refine z14 ?_ | refine z16 ?_ | refine z17 ?_ | refine z26 ?_ | refine z30 ?_ | refine z48 ?_ | refine z49 ?_ | refine z50 ?_ | refine z51 ?_ | refine z52 ?_ | refine z53 ?_ | refine z54 ?_ | refine z55 ?_ | refine z56 ?_ | refine z57 ?_ | refine z58 ?_ | refine z59 ?_ | refine z60 ?_ | refine z61 ?_ | refine z62 ?_ | refine z65 ?_ | refine z68 ?_ | refine z78 fun _ _ _ => ?_ | refine z82 fun _ _ _ => ?_ | refine z83 fun _ _ _ => ?_ | refine z88 (r_end ?_) | refine z89 (r_end ?_) | refine z90 (r_end ?_) | refine z91 (r_end ?_) | refine z92 (r_end ?_) | refine z93 (r_end ?_) | refine z94 (r_end ?_) | refine p_call rfl (k_r25_first (by assumption) hn (Hp.then (by assumption) (fun _ _ => ?_))) | refine p_call rfl (k_r25_Key (RowsOk.fr hr (Hp.fr (by assumption))) hn ?_) | refine z95 (fun _ => ?_) (fun _ => ?_) | refine z96 (fun _ => ?_) (fun _ => ?_) | refine z97 (fun _ => ?_) (fun _ => ?_)))
  all_goals first
    | (have hsome : (frst (gI sp i).lo (gI sp i).hi ss.flatten none).isSome = true := by assumption
       have hk : spanKey ss b (gI sp i) = keyS ss b ((frst (gI sp i).lo (gI sp i).hi ss.flatten none).getD 0) := by
         unfold spanKey
         cases hf : frst (gI sp i).lo (gI sp i).hi ss.flatten none with
         | none => rw [hf] at hsome; cases hsome
         | some q => rfl
       refine h_app1 (T := cxE) (spanKey ss b (gI sp i)) (by assumption) rfl rfl (by first | exact .head | exact .tail .head | exact .tail (.tail .head) | exact .tail (.tail (.tail .head)) | exact .tail (.tail (.tail (.tail .head))) | exact .tail (.tail (.tail (.tail (.tail .head))))) rfl rfl (by rw [hk]) (by omega) (fun s2 H2 hp2 => ?_))
    | (have hnone : (frst (gI sp i).lo (gI sp i).hi ss.flatten none).isSome = false := by assumption
       have hk : spanKey ss b (gI sp i) = noKey := by
         unfold spanKey
         cases hf : frst (gI sp i).lo (gI sp i).hi ss.flatten none with
         | some q => rw [hf] at hnone; cases hnone
         | none => rfl
       refine h_app1 (T := cxE) (spanKey ss b (gI sp i)) (by assumption) rfl rfl (by first | exact .head | exact .tail .head | exact .tail (.tail .head) | exact .tail (.tail (.tail .head)) | exact .tail (.tail (.tail (.tail .head))) | exact .tail (.tail (.tail (.tail (.tail .head))))) rfl rfl (by rw [hk]; rfl) (by omega) (fun s2 H2 hp2 => ?_))
    | skip
  rotate_left 2
  · rw [List.take_of_length_le (by omega)] at hp
    exact k _ _ hp
  all_goals
    (repeat' (first | refine z0 ?_ | refine z1 ?_ | refine z2 ?_ | refine z3 ?_ | refine z4 ?_ | refine z5 ?_ | refine z6 ?_ | refine z7 ?_ | refine z8 ?_ | refine z9 ?_ | refine z10 ?_ | refine z11 ?_ | refine z12 ?_ | refine z13 ?_ | refine z14 ?_ | refine z16 ?_ | refine z17 ?_ | refine z26 ?_ | refine z30 ?_ | refine z48 ?_ | refine z49 ?_ | refine z50 ?_ | refine z51 ?_ | refine z52 ?_ | refine z53 ?_ | refine z54 ?_ | refine z55 ?_ | refine z56 ?_ | refine z57 ?_ | refine z58 ?_ | refine z59 ?_ | refine z60 ?_ | refine z61 ?_ | refine z62 ?_ | refine z65 ?_ | refine z68 ?_ | refine z78 fun _ _ _ => ?_ | refine z81 fun _ _ _ => ?_ | refine z82 fun _ _ _ => ?_ | refine z83 fun _ _ _ => ?_ | refine z88 (r_end ?_) | refine z89 (r_end ?_) | refine z90 (r_end ?_) | refine z91 (r_end ?_) | refine z92 (r_end ?_) | refine z93 (r_end ?_) | refine z94 (r_end ?_) | refine z95 (fun _ => ?_) (fun _ => ?_) | refine z96 (fun _ => ?_) (fun _ => ?_) | refine z97 (fun _ => ?_) (fun _ => ?_)))
    refine lpE rfl ⟨sp.length - (i + 1), by omega, i + 1, rfl, by omega, ?_, rfl⟩
    rw [take_gI (by omega), List.map_append]; exact hp2
/-! The same by collecting all, and the least of them. -/
def inSp (lo hi : Int) (p : Int) : Bool := decide (lo ≤ p) && decide (p < hi)
def minS : List Int → Int
  | [] => 0
  | x :: l => l.foldl min x
theorem frst_filter (lo hi : Int) : ∀ (l : List Int) (acc : Option Int), frst lo hi l acc = (l.filter (inSp lo hi)).foldl (fun a p => match a with | none => some p | some q => some (min q p)) acc
  | [], acc => rfl
  | p :: l, acc => by
    show frst lo hi l (stp lo hi acc p) = _
    rw [frst_filter lo hi l]
    by_cases h : lo ≤ p ∧ p < hi
    · rw [List.filter_cons_of_pos (by simp [inSp, h]), List.foldl_cons]
      congr 1
      unfold stp; rw [if_pos h]
      cases acc with
      | none => rfl
      | some q => simp only; split <;> (congr 1; omega)
    · rw [List.filter_cons_of_neg (by simp [inSp]; omega), stp_out h]
theorem fold_some : ∀ (l : List Int) (q : Int), l.foldl (fun (a : Option Int) p => match a with | none => some p | some q => some (min q p)) (some q) = some (l.foldl min q)
  | [], q => rfl
  | p :: l, q => by simp only [List.foldl_cons]; exact fold_some l _
theorem frst_min (lo hi : Int) (l : List Int) : frst lo hi l none = if l.filter (inSp lo hi) = [] then none else some (minS (l.filter (inSp lo hi))) := by
  rw [frst_filter]
  cases h : l.filter (inSp lo hi) with
  | nil => rfl
  | cons x r => simp only [List.foldl_cons]; rw [fold_some, if_neg (by simp)]; rfl
theorem k_slices_Min {v : Value} {l : List Int} {H : Heap} {N X : Value → Heap → Prop} (hl : IsS intE H v l) (h0 : 0 < l.length) (hn : l.length ≤ 1000000000) (k : N (.int .i64 (minS l)) H) : ACall Try.prog 21 [v] H (EndK N X) := by
  refine call_slices_Min_int_int (fun e => ?_)
  (repeat' (first | refine z0 ?_ | refine z1 ?_ | refine z2 ?_ | refine z3 ?_ | refine z4 ?_ | refine z5 ?_ | refine z6 ?_ | refine z7 ?_ | refine z8 ?_ | refine z9 ?_ | refine z10 ?_ | refine z11 ?_ | refine z12 ?_ | refine z13 ?_ | refine z14 ?_ | refine z16 ?_ | refine z17 ?_ | refine z26 ?_ | refine z30 ?_ | refine z45 ?_ | refine z48 ?_ | refine z49 ?_ | refine z50 ?_ | refine z51 ?_ | refine z52 ?_ | refine z53 ?_ | refine z54 ?_ | refine z55 ?_ | refine z56 ?_ | refine z57 ?_ | refine z58 ?_ | refine z59 ?_ | refine z60 ?_ | refine z61 ?_ | refine z62 ?_ | refine z65 ?_ | refine z73 ?_ | refine z88 (r_end ?_) | refine z89 (r_end ?_) | refine z90 (r_end ?_) | refine z91 (r_end ?_) | refine z92 (r_end ?_) | refine z93 (r_end ?_) | refine z94 (r_end ?_) | refine z95 (fun _ => ?_) (fun _ => ?_) | refine z96 (fun _ => ?_) (fun _ => ?_) | refine z97 (fun _ => ?_) (fun _ => ?_)))
  · omega
  refine lp2 3 4 [0] (fun v3 v4 H' n => ∃ i : Nat, v4 = .int .i64 i ∧ 1 ≤ i ∧ i ≤ l.length ∧ v3 = .int .i64 (minS (l.take i)) ∧ H = H' ∧ n = l.length - i) rfl rfl rfl rfl (l.length - 1) ⟨1, rfl, by omega, by omega, ?_, rfl, rfl⟩ ?_
  · rw [show l.take 1 = [gI l 0] from by rw [take_gI (i := 0) h0]; simp]; rfl
  rintro _ _ _ n e' ⟨i, rfl, hi1, hi, rfl, rfl, rfl⟩
  (repeat' (first | refine z0 ?_ | refine z1 ?_ | refine z2 ?_ | refine z3 ?_ | refine z4 ?_ | refine z5 ?_ | refine z6 ?_ | refine z7 ?_ | refine z8 ?_ | refine z9 ?_ | refine z10 ?_ | refine z11 ?_ | refine z12 ?_ | refine z13 ?_ | refine z14 ?_ | refine z16 ?_ | refine z17 ?_ | refine z26 ?_ | refine z30 ?_ | refine z45 ?_ | refine z48 ?_ | refine z49 ?_ | refine z50 ?_ | refine z51 ?_ | refine z52 ?_ | refine z53 ?_ | refine z54 ?_ | refine z55 ?_ | refine z56 ?_ | refine z57 ?_ | refine z58 ?_ | refine z59 ?_ | refine z60 ?_ | refine z61 ?_ | refine z62 ?_ | refine z65 ?_ | refine z73 ?_ | refine z88 (r_end ?_) | refine z89 (r_end ?_) | refine z90 (r_end ?_) | refine z91 (r_end ?_) | refine z92 (r_end ?_) | refine z93 (r_end ?_) | refine z94 (r_end ?_) | refine z95 (fun _ => ?_) (fun _ => ?_) | refine z96 (fun _ => ?_) (fun _ => ?_) | refine z97 (fun _ => ?_) (fun _ => ?_)))
  · refine lpE rfl ⟨l.length - (i + 1), by omega, i + 1, rfl, by omega, by omega, ?_, rfl, rfl⟩
    rw [take_gI (by omega)]
    congr 1
    have : (l.take i) ≠ [] := by
      intro h; have := congrArg List.length h; rw [List.length_take] at this; simp only [List.length_nil] at this; omega
    cases ht : l.take i with
    | nil => exact absurd ht this
    | cons x r => simp only [minS, List.cons_append, List.foldl_append]; rfl
  · have hx : ¬ (i : Int) < l.length := by assumption
    have hx2 : l.length ≤ i := by omega
    rw [List.take_of_length_le hx2]; exact k
theorem k_tour_Keys {v u : Value} {rs : List RowL} {ss : List (List Int)} {b : Int} {sp : List Spn} {H : Heap} {N X : Value → Heap → Prop} (hr : RowsOk H v rs ss) (hn : Small ss) (hfl : ss.flatten.length ≤ 1000000) (hu : IsS spnE H u sp) (hsp : sp.length ≤ 1000)
    (k : ∀ v' H', Hp H H' [.sl 1 v' (cxE.all (sp.map (spanKey ss b)))] → N v' H') : ACall Try.prog 9 [v, .int .i64 b, u] H (EndK N X) := by
  refine call_tour_Keys (fun e => ?_)
  have hp0 := (Hp.refl H).nil 1
  have hlen := hr.len
  have hi' := hr.is
  have hsl := hn.1
  (repeat' (first | refine z0 ?_ | refine z1 ?_ | refine z2 ?_ | refine z3 ?_ | refine z4 ?_ | refine z5 ?_ | refine z6 ?_ | refine z7 ?_ | refine z8 ?_ | refine z9 ?_ | refine z10 ?_ | refine z11 ?_ | refine z12 ?_ | refine z13 ?_ | refine z14 ?_ | refine z16 ?_ | refine z17 ?_ | refine z18 ?_ | refine z19 ?_ | refine z20 ?_ | refine z24 ?_ | refine z25 ?_ | refine z26 ?_ | refine z30 ?_ | refine z32 ?_ | refine z33 ?_ | refine z48 ?_ | refine z49 ?_ | refine z50 ?_ | refine z51 ?_ | refine z52 ?_ | refine z53 ?_ | refine z54 ?_ | refine z55 ?_ | refine z56 ?_ | refine z57 ?_ | refine z58 ?_ | refine z59 ?_ | refine z60 ?_ | refine z61 ?_ | refine z62 ?_ | refine z63 ?_ | refine z64 fun _ _ => ?_ | refine z65 ?_ | refine z78 fun _ _ _ => ?_ | refine z79 fun _ _ _ => ?_ | refine z81 fun _ _ _ => ?_ | refine z82 fun _ _ _ => ?_ | refine z83 fun _ _ _ => ?_ | refine z84 fun _ _ => ?_ | refine z88 (r_end ?_) | refine z89 (r_end ?_) | refine z90 (r_end ?_) | refine z91 (r_end ?_) | refine z92 (r_end ?_) | refine z93 (r_end ?_) | refine z94 (r_end ?_) | refine z95 (fun _ => ?_) (fun _ => ?_) | refine z96 (fun _ => ?_) (fun _ => ?_) | refine z97 (fun _ => ?_) (fun _ => ?_) | refine z98 (fun _ => ?_) (fun _ => ?_) | refine z99 (fun _ => ?_) (fun _ => ?_) | refine z100 (fun _ => ?_) (fun _ => ?_) | refine z101 (fun _ => ?_) (fun _ => ?_) | refine z102 (fun _ => ?_) (fun _ => ?_) | refine z103 (fun _ => ?_) (fun _ => ?_)))
  refine lp2 7 18 [0, 1, 16, 17] (fun v7 v18 H' n => ∃ (i : Nat), v18 = .int .i64 i ∧ i ≤ sp.length ∧ Hp H H' [.sl 1 v7 (cxE.all ((sp.take i).map (spanKey ss b)))] ∧ n = sp.length - i) rfl rfl rfl rfl sp.length ⟨0, rfl, by omega, by simpa using hp0, rfl⟩ ?_
  rintro v7 _ H1 n e' ⟨i, rfl, hi, hp, rfl⟩
  have hm : ((sp.take i).map (spanKey ss b)).length ≤ 1000 := by simp; omega
  (repeat' (first | refine z0 ?_ | refine z1 ?_ | refine z2 ?_ | refine z3 ?_ | refine z4 ?_ | refine z5 ?_ | refine z6 ?_ | refine z7 ?_ | refine z8 ?_ | refine z9 ?_ | refine z10 ?_ | refine z11 ?_ | refine z12 ?_ | refine z13 ?_ | refine z14 ?_ | refine z16 ?_ | refine z17 ?_ | refine z18 ?_ | refine z19 ?_ | refine z20 ?_ | refine z24 ?_ | refine z25 ?_ | refine z26 ?_ | refine z30 ?_ | refine z32 ?_ | refine z33 ?_ | refine z48 ?_ | refine z49 ?_ | refine z50 ?_ | refine z51 ?_ | refine z52 ?_ | refine z53 ?_ | refine z54 ?_ | refine z55 ?_ | refine z56 ?_ | refine z57 ?_ | refine z58 ?_ | refine z59 ?_ | refine z60 ?_ | refine z61 ?_ | refine z62 ?_ | refine z63 ?_ | refine z64 fun _ _ => ?_ | refine z65 ?_ | refine z78 fun _ _ _ => ?_ | refine z79 fun _ _ _ => ?_ | refine z81 fun _ _ _ => ?_ | refine z82 fun _ _ _ => ?_ | refine z83 fun _ _ _ => ?_ | refine z84 fun _ _ => ?_ | refine z88 (r_end ?_) | refine z89 (r_end ?_) | refine z90 (r_end ?_) | refine z91 (r_end ?_) | refine z92 (r_end ?_) | refine z93 (r_end ?_) | refine z94 (r_end ?_) | refine z95 (fun _ => ?_) (fun _ => ?_) | refine z96 (fun _ => ?_) (fun _ => ?_) | refine z97 (fun _ => ?_) (fun _ => ?_) | refine z98 (fun _ => ?_) (fun _ => ?_) | refine z99 (fun _ => ?_) (fun _ => ?_) | refine z100 (fun _ => ?_) (fun _ => ?_) | refine z101 (fun _ => ?_) (fun _ => ?_) | refine z102 (fun _ => ?_) (fun _ => ?_) | refine z103 (fun _ => ?_) (fun _ => ?_)))
  · rename_i b9 _ _ H2 hp2
    have hp3 := hp2.nil 1
    have hr2 := hr.fr hp2.fr
    refine lp2 10 24 [0, 1, 7, 9, 16, 17, 18, 22, 23] (fun v10 v24 H' n => ∃ (j : Nat), v24 = .int .i64 j ∧ j ≤ rs.length ∧ Hp H H' [.sl 1 v10 (intE.all ((ss.take j).flatten.filter (inSp (gI sp i).lo (gI sp i).hi))), .blk b9 [.int .i64 (gI sp i).lo, .int .i64 (gI sp i).hi], .sl 1 v7 (cxE.all ((sp.take i).map (spanKey ss b)))] ∧ n = rs.length - j) rfl rfl rfl rfl rs.length ⟨0, rfl, by omega, by simpa using hp3, rfl⟩ ?_
    rintro v10 _ H3 n e2 ⟨j, rfl, hj, hp4, rfl⟩
    have hs := hr.seen j
    have hsz := hn.at j
    have hin := hr.is
    have hfe : ∀ (l : List Int), (l.filter (inSp (gI sp i).lo (gI sp i).hi)).length ≤ l.length := fun l => List.length_filter_le _ _
    have hfj : (ss.take j).flatten.length ≤ 1000000 := by
      have h1 : ss.flatten = (ss.take j).flatten ++ (ss.drop j).flatten := by rw [← List.flatten_append, List.take_append_drop]
      have h2 := congrArg List.length h1
      rw [List.length_append] at h2; omega
    have hfq := hfe (ss.take j).flatten
    have hdone : ¬ (j : Int) < rs.length → (ss.take j).flatten = ss.flatten := fun h => by rw [List.take_of_length_le (by omega)]
    (repeat' (first | refine z0 ?_ | refine z1 ?_ | refine z2 ?_ | refine z3 ?_ | refine z4 ?_ | refine z5 ?_ | refine z6 ?_ | refine z7 ?_ | refine z8 ?_ | refine z9 ?_ | refine z10 ?_ | refine z11 ?_ | refine z12 ?_ | refine z13 ?_ | refine z14 ?_ | refine z16 ?_ | refine z17 ?_ | refine z18 ?_ | refine z19 ?_ | refine z20 ?_ | refine z24 ?_ | refine z25 ?_ | refine z26 ?_ | refine z30 ?_ | refine z32 ?_ | refine z33 ?_ | refine z48 ?_ | refine z49 ?_ | refine z50 ?_ | refine z51 ?_ | refine z52 ?_ | refine z53 ?_ | refine z54 ?_ | refine z55 ?_ | refine z56 ?_ | refine z57 ?_ | refine z58 ?_ | refine z59 ?_ | refine z60 ?_ | refine z61 ?_ | refine z62 ?_ | refine z63 ?_ | refine z64 fun _ _ => ?_ | refine z65 ?_ | refine z78 fun _ _ _ => ?_ | refine z79 fun _ _ _ => ?_ | refine z84 fun _ _ => ?_ | refine z88 (r_end ?_) | refine z89 (r_end ?_) | refine z90 (r_end ?_) | refine z91 (r_end ?_) | refine z92 (r_end ?_) | refine z93 (r_end ?_) | refine z94 (r_end ?_) | refine z95 (fun _ => ?_) (fun _ => ?_) | refine z96 (fun _ => ?_) (fun _ => ?_) | refine z97 (fun _ => ?_) (fun _ => ?_) | refine z98 (fun _ => ?_) (fun _ => ?_) | refine z99 (fun _ => ?_) (fun _ => ?_) | refine z100 (fun _ => ?_) (fun _ => ?_) | refine z101 (fun _ => ?_) (fun _ => ?_) | refine z102 (fun _ => ?_) (fun _ => ?_) | refine z103 (fun _ => ?_) (fun _ => ?_)))
    · rename_i b12 _ _ H5 hp6
      refine lp2 10 31 [0, 1, 7, 9, 16, 17, 18, 22, 23, 24, 29, 30] (fun v10 v31 H' n => ∃ (q : Nat), v31 = .int .i64 q ∧ q ≤ (gI ss j).length ∧ Hp H H' [.sl 1 v10 (intE.all ((ss.take j).flatten.filter (inSp (gI sp i).lo (gI sp i).hi) ++ ((gI ss j).take q).filter (inSp (gI sp i).lo (gI sp i).hi))), .blk b9 [.int .i64 (gI sp i).lo, .int .i64 (gI sp i).hi], .sl 1 v7 (cxE.all ((sp.take i).map (spanKey ss b)))] ∧ n = (gI ss j).length - q) rfl rfl rfl rfl (gI ss j).length ⟨0, rfl, by omega, by rw [List.take_zero, List.filter_nil, List.append_nil]; exact hp6.sub (by repeat (first | exact .slnil | exact .refl _ | refine .cons₂ _ ?_ | refine .cons _ ?_)), rfl⟩ ?_
      rintro v10 _ H6 n e3 ⟨q, rfl, hq, hp7, rfl⟩
      have hfl2 := hfe ((gI ss j).take q)
      have hfl3 : ((gI ss j).take q).length ≤ 1000000 := by rw [List.length_take]; omega
      have hst : ∀ h : q < (gI ss j).length, ((gI ss j).take (q + 1)).filter (inSp (gI sp i).lo (gI sp i).hi) = ((gI ss j).take q).filter (inSp (gI sp i).lo (gI sp i).hi) ++ (if inSp (gI sp i).lo (gI sp i).hi (gI (gI ss j) q) = true then [gI (gI ss j) q] else []) := by
        intro h; rw [take_gI h, List.filter_append]
        congr 1
        by_cases hb : inSp (gI sp i).lo (gI sp i).hi (gI (gI ss j) q) = true
        · rw [if_pos hb, List.filter_cons_of_pos hb]; rfl
        · rw [if_neg hb, List.filter_cons_of_neg hb]; rfl
      (repeat' (first | refine z0 ?_ | refine z1 ?_ | refine z2 ?_ | refine z3 ?_ | refine z4 ?_ | refine z5 ?_ | refine z6 ?_ | refine z7 ?_ | refine z8 ?_ | refine z9 ?_ | refine z10 ?_ | refine z11 ?_ | refine z12 ?_ | refine z13 ?_ | refine z14 ?_ | refine z16 ?_ | refine z17 ?_ | refine z18 ?_ | refine z19 ?_ | refine z20 ?_ | refine z24 ?_ | refine z25 ?_ | refine z26 ?_ | refine z30 ?_ | refine z32 ?_ | refine z33 ?_ | refine z48 ?_ | refine z49 ?_ | refine z50 ?_ | refine z51 ?_ | refine z52 ?_ | refine z53 ?_ | refine z54 ?_ | refine z55 ?_ | refine z56 ?_ | refine z57 ?_ | refine z58 ?_ | refine z59 ?_ | refine z60 ?_ | refine z61 ?_ | refine z62 ?_ | refine z63 ?_ | refine z64 fun _ _ => ?_ | refine z65 ?_ | refine z78 fun _ _ _ => ?_ | refine z79 fun _ _ _ => ?_ | refine z81 fun _ _ _ => ?_ | refine z82 fun _ _ _ => ?_ | refine z83 fun _ _ _ => ?_ | refine z84 fun _ _ => ?_ | refine z88 (r_end ?_) | refine z89 (r_end ?_) | refine z90 (r_end ?_) | refine z91 (r_end ?_) | refine z92 (r_end ?_) | refine z93 (r_end ?_) | refine z94 (r_end ?_) | refine z95 (fun _ => ?_) (fun _ => ?_) | refine z96 (fun _ => ?_) (fun _ => ?_) | refine z97 (fun _ => ?_) (fun _ => ?_) | refine z98 (fun _ => ?_) (fun _ => ?_) | refine z99 (fun _ => ?_) (fun _ => ?_) | refine z100 (fun _ => ?_) (fun _ => ?_) | refine z101 (fun _ => ?_) (fun _ => ?_) | refine z102 (fun _ => ?_) (fun _ => ?_) | refine z103 (fun _ => ?_) (fun _ => ?_)))
      · rename_i hp8
        refine lpE rfl ⟨(gI ss j).length - (q + 1), by omega, q + 1, rfl, by omega, ?_, rfl⟩
        have h1 : (gI sp i).lo ≤ gI (gI ss j) q := by assumption
        have h2 : gI (gI ss j) q < (gI sp i).hi := by assumption
        rw [hst (by omega), if_pos (by simp [inSp, h1, h2]), ← List.append_assoc]; exact hp8
      · refine lpE rfl ⟨(gI ss j).length - (q + 1), by omega, q + 1, rfl, by omega, ?_, rfl⟩
        have h2 : ¬ gI (gI ss j) q < (gI sp i).hi := by assumption
        rw [hst (by omega), if_neg (by simp [inSp, h2]), List.append_nil]; exact hp7
      · refine lpE rfl ⟨(gI ss j).length - (q + 1), by omega, q + 1, rfl, by omega, ?_, rfl⟩
        have h2 : ¬ (gI sp i).lo ≤ gI (gI ss j) q := by assumption
        rw [hst (by omega), if_neg (by simp [inSp, h2]), List.append_nil]; exact hp7
      · refine lpE rfl ⟨rs.length - (j + 1), by omega, j + 1, rfl, by omega, ?_, rfl⟩
        rw [show (gI ss j).take q = gI ss j from List.take_of_length_le (by omega)] at hp7
        rw [take_gI (by omega), List.flatten_append, List.filter_append, show [gI ss (j : Int)].flatten = gI ss j from by simp]
        exact hp7
    · have hd := hdone (by assumption)
      have hpos : (0 : Int) < ((ss.take j).flatten.filter (inSp (gI sp i).lo (gI sp i).hi)).length := by assumption
      have hkey : spanKey ss b (gI sp i) = keyS ss b (minS ((ss.take j).flatten.filter (inSp (gI sp i).lo (gI sp i).hi))) := by
        unfold spanKey
        rw [hd] at hpos
        rw [frst_min, hd, if_neg (by intro h; rw [h] at hpos; simp at hpos)]
      (repeat' (first | refine z0 ?_ | refine z1 ?_ | refine z2 ?_ | refine z3 ?_ | refine z4 ?_ | refine z5 ?_ | refine z6 ?_ | refine z7 ?_ | refine z8 ?_ | refine z9 ?_ | refine z10 ?_ | refine z11 ?_ | refine z12 ?_ | refine z13 ?_ | refine z14 ?_ | refine z16 ?_ | refine z17 ?_ | refine z18 ?_ | refine z19 ?_ | refine z20 ?_ | refine z24 ?_ | refine z25 ?_ | refine z26 ?_ | refine z30 ?_ | refine z32 ?_ | refine z33 ?_ | refine z48 ?_ | refine z49 ?_ | refine z50 ?_ | refine z51 ?_ | refine z52 ?_ | refine z53 ?_ | refine z54 ?_ | refine z55 ?_ | refine z56 ?_ | refine z57 ?_ | refine z58 ?_ | refine z59 ?_ | refine z60 ?_ | refine z61 ?_ | refine z62 ?_ | refine z63 ?_ | refine z64 fun _ _ => ?_ | refine z65 ?_ | refine z78 fun _ _ _ => ?_ | refine z79 fun _ _ _ => ?_ | refine z84 fun _ _ => ?_ | refine z88 (r_end ?_) | refine z89 (r_end ?_) | refine z90 (r_end ?_) | refine z91 (r_end ?_) | refine z92 (r_end ?_) | refine z93 (r_end ?_) | refine z94 (r_end ?_) | refine p_call rfl (k_slices_Min (l := (ss.take j).flatten.filter (inSp (gI sp i).lo (gI sp i).hi)) (Hp.is2 hp4 (by first | exact .head _ | exact .tail _ (.head _) | exact .tail _ (.tail _ (.head _)) | exact .tail _ (.tail _ (.tail _ (.head _))) | exact .tail _ (.tail _ (.tail _ (.tail _ (.head _)))) | exact .tail _ (.tail _ (.tail _ (.tail _ (.tail _ (.head _)))))) rfl) (by omega) (by omega) ?_) | refine p_call rfl (k_tour_Key (hr.fr hp4.fr) hn (Hp.then hp4 (fun _ _ => ?_))) | refine z95 (fun _ => ?_) (fun _ => ?_) | refine z96 (fun _ => ?_) (fun _ => ?_) | refine z97 (fun _ => ?_) (fun _ => ?_) | refine z98 (fun _ => ?_) (fun _ => ?_) | refine z99 (fun _ => ?_) (fun _ => ?_) | refine z100 (fun _ => ?_) (fun _ => ?_) | refine z101 (fun _ => ?_) (fun _ => ?_) | refine z102 (fun _ => ?_) (fun _ => ?_) | refine z103 (fun _ => ?_) (fun _ => ?_)))
      refine h_app1 (T := cxE) (spanKey ss b (gI sp i)) (by assumption) rfl rfl (by first | exact .head | exact .tail .head | exact .tail (.tail .head) | exact .tail (.tail (.tail .head)) | exact .tail (.tail (.tail (.tail .head))) | exact .tail (.tail (.tail (.tail (.tail .head))))) rfl rfl (by rw [hkey]) (by omega) (fun s2 H9 hp9 => ?_)
      (repeat' (first | refine z0 ?_ | refine z1 ?_ | refine z2 ?_ | refine z3 ?_ | refine z4 ?_ | refine z5 ?_ | refine z6 ?_ | refine z7 ?_ | refine z8 ?_ | refine z9 ?_ | refine z10 ?_ | refine z11 ?_ | refine z12 ?_ | refine z13 ?_ | refine z14 ?_ | refine z16 ?_ | refine z17 ?_ | refine z18 ?_ | refine z19 ?_ | refine z20 ?_ | refine z24 ?_ | refine z25 ?_ | refine z26 ?_ | refine z30 ?_ | refine z32 ?_ | refine z33 ?_ | refine z48 ?_ | refine z49 ?_ | refine z50 ?_ | refine z51 ?_ | refine z52 ?_ | refine z53 ?_ | refine z54 ?_ | refine z55 ?_ | refine z56 ?_ | refine z57 ?_ | refine z58 ?_ | refine z59 ?_ | refine z60 ?_ | refine z61 ?_ | refine z62 ?_ | refine z63 ?_ | refine z64 fun _ _ => ?_ | refine z65 ?_ | refine z78 fun _ _ _ => ?_ | refine z79 fun _ _ _ => ?_ | refine z81 fun _ _ _ => ?_ | refine z82 fun _ _ _ => ?_ | refine z83 fun _ _ _ => ?_ | refine z84 fun _ _ => ?_ | refine z88 (r_end ?_) | refine z89 (r_end ?_) | refine z90 (r_end ?_) | refine z91 (r_end ?_) | refine z92 (r_end ?_) | refine z93 (r_end ?_) | refine z94 (r_end ?_) | refine z95 (fun _ => ?_) (fun _ => ?_) | refine z96 (fun _ => ?_) (fun _ => ?_) | refine z97 (fun _ => ?_) (fun _ => ?_) | refine z98 (fun _ => ?_) (fun _ => ?_) | refine z99 (fun _ => ?_) (fun _ => ?_) | refine z100 (fun _ => ?_) (fun _ => ?_) | refine z101 (fun _ => ?_) (fun _ => ?_) | refine z102 (fun _ => ?_) (fun _ => ?_) | refine z103 (fun _ => ?_) (fun _ => ?_)))
      refine lpE rfl ⟨sp.length - (i + 1), by omega, i + 1, rfl, by omega, ?_, rfl⟩
      rw [take_gI (by omega), List.map_append]; exact hp9.sub (by repeat (first | exact .slnil | exact .refl _ | refine .cons₂ _ ?_ | refine .cons _ ?_))
    · have hd := hdone (by assumption)
      have hpos : ¬ (0 : Int) < ((ss.take j).flatten.filter (inSp (gI sp i).lo (gI sp i).hi)).length := by assumption
      have hkey : spanKey ss b (gI sp i) = noKey := by
        unfold spanKey
        rw [hd] at hpos
        rw [frst_min, if_pos (List.length_eq_zero_iff.1 (by omega))]
      refine h_app1 (T := cxE) (spanKey ss b (gI sp i)) (by assumption) rfl rfl (by first | exact .head | exact .tail .head | exact .tail (.tail .head) | exact .tail (.tail (.tail .head)) | exact .tail (.tail (.tail (.tail .head))) | exact .tail (.tail (.tail (.tail (.tail .head))))) rfl rfl (by rw [hkey]; rfl) (by omega) (fun s2 H9 hp9 => ?_)
      (repeat' (first | refine z0 ?_ | refine z1 ?_ | refine z2 ?_ | refine z3 ?_ | refine z4 ?_ | refine z5 ?_ | refine z6 ?_ | refine z7 ?_ | refine z8 ?_ | refine z9 ?_ | refine z10 ?_ | refine z11 ?_ | refine z12 ?_ | refine z13 ?_ | refine z14 ?_ | refine z16 ?_ | refine z17 ?_ | refine z18 ?_ | refine z19 ?_ | refine z20 ?_ | refine z24 ?_ | refine z25 ?_ | refine z26 ?_ | refine z30 ?_ | refine z32 ?_ | refine z33 ?_ | refine z48 ?_ | refine z49 ?_ | refine z50 ?_ | refine z51 ?_ | refine z52 ?_ | refine z53 ?_ | refine z54 ?_ | refine z55 ?_ | refine z56 ?_ | refine z57 ?_ | refine z58 ?_ | refine z59 ?_ | refine z60 ?_ | refine z61 ?_ | refine z62 ?_ | refine z63 ?_ | refine z64 fun _ _ => ?_ | refine z65 ?_ | refine z78 fun _ _ _ => ?_ | refine z79 fun _ _ _ => ?_ | refine z81 fun _ _ _ => ?_ | refine z82 fun _ _ _ => ?_ | refine z83 fun _ _ _ => ?_ | refine z84 fun _ _ => ?_ | refine z88 (r_end ?_) | refine z89 (r_end ?_) | refine z90 (r_end ?_) | refine z91 (r_end ?_) | refine z92 (r_end ?_) | refine z93 (r_end ?_) | refine z94 (r_end ?_) | refine z95 (fun _ => ?_) (fun _ => ?_) | refine z96 (fun _ => ?_) (fun _ => ?_) | refine z97 (fun _ => ?_) (fun _ => ?_) | refine z98 (fun _ => ?_) (fun _ => ?_) | refine z99 (fun _ => ?_) (fun _ => ?_) | refine z100 (fun _ => ?_) (fun _ => ?_) | refine z101 (fun _ => ?_) (fun _ => ?_) | refine z102 (fun _ => ?_) (fun _ => ?_) | refine z103 (fun _ => ?_) (fun _ => ?_)))
      refine lpE rfl ⟨sp.length - (i + 1), by omega, i + 1, rfl, by omega, ?_, rfl⟩
      rw [take_gI (by omega), List.map_append]; exact hp9.sub (by repeat (first | exact .slnil | exact .refl _ | refine .cons₂ _ ?_ | refine .cons _ ?_))
  · rw [List.take_of_length_le (by omega)] at hp
    exact k _ _ hp
end Go.Proofs.Ytlfihcndchjgcaa
