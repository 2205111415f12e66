/- Own text of this session: Law05P. -/
import Derived.Test.YtlfihcndchjgcaaDoorBaseB
set_option linter.unusedVariables false
set_option linter.unusedSimpArgs false
namespace Go.Proofs.YtlfihcndchjgcaaDoor
open Go Go.Ab
/-- Isolates within begin and end, down to none; no paragraph ends. -/
def okD : List Int → Nat → Prop
  | [], d => d = 0
  | c :: l, d => c ≠ 10 ∧ if opens c = true then okD l (d + 1) else if c = 22 then 0 < d ∧ okD l (d - 1) else okD l d
def stA : List Int → Nat → List Nat → List Nat
  | [], _, st => st
  | c :: l, i, st => if c = 10 then stA l (i + 1) [] else if opens c = true then stA l (i + 1) (i :: st) else if c = 22 then stA l (i + 1) st.tail else stA l (i + 1) st
theorem mtR_append : ∀ (a b : List Int) (i : Nat) (st : List Nat) (m : List Int), mtR (a ++ b) i st m = mtR b (i + a.length) (stA a i st) (mtR a i st m)
  | [], b, i, st, m => rfl
  | c :: a, b, i, st, m => by
    simp only [List.cons_append, mtR, stA, List.length_cons]
    rw [show i + (a.length + 1) = (i + 1) + a.length from by omega]
    split
    · exact mtR_append a b _ _ _
    · split
      · exact mtR_append a b _ _ _
      · split
        · cases st with
          | nil => exact mtR_append a b _ _ _
          | cons s st => exact mtR_append a b _ _ _
        · exact mtR_append a b _ _ _
theorem stA_ok : ∀ (a : List Int) (i : Nat) (st bs : List Nat), okD a st.length → stA a i (st ++ bs) = bs
  | [], i, st, bs, h => by
    have : st = [] := List.length_eq_zero_iff.1 h
    subst this; rfl
  | c :: a, i, st, bs, ⟨h1, h⟩ => by
    simp only [stA, if_neg h1]
    split at h
    · rename_i ho; rw [if_pos ho]; exact stA_ok a (i + 1) (i :: st) bs h
    · rename_i ho
      rw [if_neg ho]
      split at h
      · rename_i h22
        rw [if_pos h22]
        cases st with
        | nil => simp at h
        | cons s st => exact stA_ok a (i + 1) st bs (by simpa using h.2)
      · rename_i h22; rw [if_neg h22]; exact stA_ok a (i + 1) st bs h
def sh (k : Nat) (x : Int) : Int := if x < 0 then x else x + k
theorem gI_setN {xs : List Int} {i : Nat} {j : Int} {x : Int} (hj0 : 0 ≤ j) (hj : j < xs.length) : gI (xs.set i x) j = if (i : Int) = j then x else gI xs j := by
  have := gI_set (xs := xs) (i := (i : Int)) (x := x) (by omega) hj0 hj
  simpa using this
/-- Further on it goes alike. -/
theorem mtR_shift : ∀ (r : List Int) (i k : Nat) (st bs : List Nat) (M m : List Int), (∀ j : Int, 0 ≤ j → j < i → gI M (j + k) = sh k (gI m j)) → (∀ b ∈ st, b < i) → i + r.length ≤ m.length → i + k + r.length ≤ M.length → (bs = [] ∨ okD r st.length) →
    (mtR r (i + k) (st.map (· + k) ++ bs) M).length = M.length ∧ (∀ j : Int, 0 ≤ j → j < (i + r.length : Nat) → gI (mtR r (i + k) (st.map (· + k) ++ bs) M) (j + k) = sh k (gI (mtR r i st m) j)) ∧
    (∀ j : Int, 0 ≤ j → j < k → gI (mtR r (i + k) (st.map (· + k) ++ bs) M) j = gI M j) ∧ (mtR r i st m).length = m.length
  | [], i, k, st, bs, M, m, hM, hst, hm, hK, hb => ⟨rfl, fun j h0 h1 => hM j h0 (by simpa using h1), fun j _ _ => rfl, rfl⟩
  | c :: r, i, k, st, bs, M, m, hM, hst, hm, hK, hb => by
    simp only [List.length_cons] at hm hK
    have base : ∀ j : Int, 0 ≤ j → j < (i + 1 : Nat) → gI (M.set (i + k) (-1)) (j + k) = sh k (gI (m.set i (-1)) j) := by
      intro j h0 h1
      rw [gI_setN (by omega) (by omega), gI_setN h0 (by omega)]
      by_cases hij : (i : Int) = j
      · rw [if_pos (by omega), if_pos hij]; rfl
      · rw [if_neg (by omega), if_neg hij]; exact hM j h0 (by omega)
    have low : ∀ j : Int, 0 ≤ j → j < k → gI (M.set (i + k) (-1)) j = gI M j := by
      intro j h0 h1
      rw [gI_setN h0 (by omega), if_neg (by omega)]
    have hst' : ∀ b ∈ st, b < i + 1 := fun b hb => by have := hst b hb; omega
    have fin : ∀ (st' bs' : List Nat) (M' m' : List Int), M'.length = M.length → m'.length = m.length → (∀ j : Int, 0 ≤ j → j < (i + 1 : Nat) → gI M' (j + k) = sh k (gI m' j)) → (∀ j : Int, 0 ≤ j → j < k → gI M' j = gI M j) → (∀ b ∈ st', b < i + 1) → (bs' = [] ∨ okD r st'.length) →
        (mtR r (i + k + 1) (st'.map (· + k) ++ bs') M').length = M.length ∧ (∀ j : Int, 0 ≤ j → j < (i + (r.length + 1) : Nat) → gI (mtR r (i + k + 1) (st'.map (· + k) ++ bs') M') (j + k) = sh k (gI (mtR r (i + 1) st' m') j)) ∧
        (∀ j : Int, 0 ≤ j → j < k → gI (mtR r (i + k + 1) (st'.map (· + k) ++ bs') M') j = gI M j) ∧ (mtR r (i + 1) st' m').length = m.length := by
      intro st' bs' M' m' l1 l2 h1 h2 h3 h4
      obtain ⟨a, b, c, d⟩ := mtR_shift r (i + 1) k st' bs' M' m' h1 h3 (by omega) (by omega) h4
      rw [show i + k + 1 = i + 1 + k from by omega]
      exact ⟨a.trans l1, fun j h0 hj => b j h0 (by omega), fun j h0 hj => (c j h0 hj).trans (h2 j h0 hj), d.trans l2⟩
    simp only [mtR, List.length_cons]
    by_cases h10 : c = 10
    · rw [if_pos h10, if_pos h10]
      rcases hb with rfl | hb
      · exact fin [] [] _ _ (by simp) (by simp) base low (by simp) (.inl rfl)
      · exact absurd h10 hb.1
    · rw [if_neg h10, if_neg h10]
      by_cases ho : opens c = true
      · rw [if_pos ho, if_pos ho]
        refine fin (i :: st) bs _ _ (by simp) (by simp) base low (fun b hb => ?_) ?_
        · rcases List.mem_cons.1 hb with rfl | hb
          · omega
          · exact hst' b hb
        · rcases hb with hb | hb
          · exact .inl hb
          · right; have := hb.2; rw [if_pos ho] at this; exact this
      · rw [if_neg ho, if_neg ho]
        by_cases h22 : c = 22
        · rw [if_pos h22, if_pos h22]
          cases st with
          | nil =>
            rcases hb with rfl | hb
            · exact fin [] [] _ _ (by simp) (by simp) base low (by simp) (.inl rfl)
            · have := hb.2; rw [if_neg ho, if_pos h22] at this; simp at this
          | cons s st =>
            have hs := hst s (by simp)
            refine fin st bs (((M.set (i + k) (-1)).set (i + k) ((s + k : Nat) : Int)).set (s + k) ((i + k : Nat) : Int)) (((m.set i (-1)).set i (s : Int)).set s (i : Int)) (by simp) (by simp) ?_ ?_ (fun b hb => hst' b (by simp [hb])) ?_
            · intro j h0 h1
              rw [gI_setN (by omega) (by simp; omega), gI_setN (by omega) (by simp; omega), gI_setN h0 (by simp; omega), gI_setN h0 (by simp; omega)]
              by_cases hsj : (s : Int) = j
              · rw [if_pos (by omega), if_pos hsj]; simp only [sh]; rw [if_neg (by omega)]; omega
              · rw [if_neg (by omega), if_neg hsj]
                by_cases hij : (i : Int) = j
                · rw [if_pos (by omega), if_pos hij]; simp only [sh]; rw [if_neg (by omega)]; omega
                · rw [if_neg (by omega), if_neg hij]; exact base j h0 h1
            · intro j h0 h1
              rw [gI_setN h0 (by simp; omega), gI_setN h0 (by simp; omega), if_neg (by omega), if_neg (by omega)]; exact low j h0 h1
            · rcases hb with hb | hb
              · exact .inl hb
              · right; have := hb.2; rw [if_neg ho, if_pos h22] at this; simpa using this.2
        · rw [if_neg h22, if_neg h22]
          refine fin st bs _ _ (by simp) (by simp) base low hst' ?_
          rcases hb with hb | hb
          · exact .inl hb
          · right; have := hb.2; rw [if_neg ho, if_neg h22] at this; exact this
theorem fst_succ (l m : List Int) (to : Int) (f : Nat) (i : Int) : fst l m to (f + 1) i = if i < to ∧ gI l i ≠ 10 then
      if opens (gI l i) = true then (if gI m i = -1 then -1 else fst l m to f (gI m i + 1))
      else if strongS (gI l i) ≠ -1 then strongS (gI l i) else fst l m to f (i + 1)
    else -1 := rfl
theorem fst_fuel {l m : List Int} {to : Int} (ok : EndsOk l m) (ht : to ≤ l.length) : ∀ (f : Nat) (i : Int), 0 ≤ i → (l.length : Int) - i < f → fst l m to (f + 1) i = fst l m to f i
  | 0, i, h0, h => by
    simp only [fst]
    rw [if_neg (fun h => by omega)]
  | f + 1, i, h0, h => by
    rw [fst_succ l m to (f + 1) i, fst_succ l m to f i]
    by_cases hc : i < to ∧ gI l i ≠ 10
    · rw [if_pos hc, if_pos hc]
      by_cases ho : opens (gI l i) = true
      · rw [if_pos ho, if_pos ho]
        rcases ok.2 i h0 (by omega) ho with he | ⟨he1, he2⟩
        · rw [if_pos he, if_pos he]
        · rw [if_neg (by omega), if_neg (by omega)]
          exact fst_fuel ok ht f _ (by omega) (by omega)
      · rw [if_neg ho, if_neg ho]
        split
        · rfl
        · exact fst_fuel ok ht f _ (by omega) (by omega)
    · rw [if_neg hc, if_neg hc]
theorem fst_fuel' {l m : List Int} {to : Int} (ok : EndsOk l m) (ht : to ≤ l.length) {i : Int} (h0 : 0 ≤ i) {f : Nat} (hf : (l.length : Int) - i < f) : ∀ (g : Nat), fst l m to (f + g) i = fst l m to f i
  | 0 => rfl
  | g + 1 => by rw [← Nat.add_assoc, fst_fuel ok ht (f + g) i h0 (by omega), fst_fuel' ok ht h0 hf g]
theorem fst_shift {L l M m : List Int} {k : Nat} {to : Int} (ok : EndsOk l m) (ht : to ≤ l.length) (h : ∀ j : Int, 0 ≤ j → j < l.length → gI L (j + k) = gI l j ∧ gI M (j + k) = sh k (gI m j)) : ∀ (f : Nat) (i : Int), 0 ≤ i → fst L M (to + k) f (i + k) = fst l m to f i
  | 0, i, h0 => rfl
  | f + 1, i, h0 => by
    rw [fst_succ L M (to + k) f (i + k), fst_succ l m to f i]
    by_cases hi : i < to
    · obtain ⟨h1, h2⟩ := h i h0 (by omega)
      rw [h1, h2]
      by_cases hc : gI l i ≠ 10
      · rw [if_pos (show i + (k : Int) < to + k ∧ gI l i ≠ 10 from ⟨by omega, hc⟩), if_pos (show i < to ∧ gI l i ≠ 10 from ⟨hi, hc⟩)]
        by_cases ho : opens (gI l i) = true
        · rw [if_pos ho, if_pos ho]
          rcases ok.2 i h0 (by omega) ho with he | ⟨he1, he2⟩
          · rw [he, if_pos (by rfl), if_pos rfl]
          · have : sh k (gI m i) = gI m i + k := by simp only [sh]; rw [if_neg (by omega)]
            rw [this, if_neg (by omega), if_neg (by omega), show gI m i + (k : Int) + 1 = (gI m i + 1) + k from by omega]
            exact fst_shift ok ht h f _ (by omega)
        · rw [if_neg ho, if_neg ho]
          split
          · rfl
          · rw [show i + (k : Int) + 1 = (i + 1) + k from by omega]; exact fst_shift ok ht h f _ (by omega)
      · rw [if_neg (show ¬ (i + (k : Int) < to + k ∧ gI l i ≠ 10) from fun h => hc h.2), if_neg (show ¬ (i < to ∧ gI l i ≠ 10) from fun h => hc h.2)]
    · rw [if_neg (fun h => by omega), if_neg (fun h => hi h.1)]
/-- What is known of an isolate that is alone at the beginning. -/
theorem match_all (w l : List Int) (h : okD w 0) : (matchS ([21] ++ w ++ [22] ++ l)).length = w.length + 2 + l.length ∧ gI (matchS ([21] ++ w ++ [22] ++ l)) 0 = w.length + 1 ∧
    (∀ j : Int, 0 ≤ j → j < w.length → gI (matchS ([21] ++ w ++ [22] ++ l)) (j + 1) = sh 1 (gI (matchS w) j)) ∧ (∀ j : Int, 0 ≤ j → j < l.length → gI (matchS ([21] ++ w ++ [22] ++ l)) (j + (w.length + 2 : Nat)) = sh (w.length + 2) (gI (matchS l) j)) := by
  have e0 : [21] ++ w ++ [22] ++ l = 21 :: (w ++ (22 :: l)) := by simp
  have hN : (21 :: (w ++ (22 :: l))).length = w.length + 2 + l.length := by simp; omega
  unfold matchS
  rw [e0, hN]
  have e1 : mtR (21 :: (w ++ (22 :: l))) 0 [] (List.replicate (w.length + 2 + l.length) 0) = mtR (w ++ (22 :: l)) 1 [0] ((List.replicate (w.length + 2 + l.length) 0).set 0 (-1)) := by
    rw [mtR, if_neg (by decide), if_pos (by decide)]
  rw [e1, mtR_append, show stA w 1 [0] = [0] from stA_ok w 1 [] [0] h]
  generalize hM1 : (List.replicate (w.length + 2 + l.length) (0 : Int)).set 0 (-1) = M1
  have hM1l : M1.length = w.length + 2 + l.length := by rw [← hM1]; simp
  obtain ⟨a1, a2, a3, a4⟩ := mtR_shift w 0 1 [] [0] M1 (List.replicate w.length 0) (fun j h0 h1 => by omega) (by simp) (by simp) (by omega) (.inr h)
  simp only [Nat.zero_add, List.map_nil, List.nil_append] at a1 a2 a3
  generalize mtR w 1 [0] M1 = M2 at a1 a2 a3
  have e2 : mtR (22 :: l) (1 + w.length) [0] M2 = mtR l (1 + w.length + 1) [] (((M2.set (1 + w.length) (-1)).set (1 + w.length) ((0 : Nat) : Int)).set 0 ((1 + w.length : Nat) : Int)) := by
    rw [mtR, if_neg (by decide), if_neg (by decide), if_pos rfl]
  rw [e2]
  generalize hM3 : ((M2.set (1 + w.length) (-1)).set (1 + w.length) ((0 : Nat) : Int)).set 0 ((1 + w.length : Nat) : Int) = M3
  have hM3l : M3.length = w.length + 2 + l.length := by rw [← hM3]; simp; omega
  obtain ⟨b1, b2, b3, b4⟩ := mtR_shift l 0 (w.length + 2) [] [] M3 (List.replicate l.length 0) (fun j h0 h1 => by omega) (by simp) (by simp) (by omega) (.inl rfl)
  rw [show 1 + w.length + 1 = 0 + (w.length + 2) from by omega]
  simp only [List.map_nil, List.nil_append] at b1 b2 b3
  have lowM3 : ∀ j : Int, 0 ≤ j → j < M3.length → gI M3 j = if 0 = j then ((1 + w.length : Nat) : Int) else if ((1 + w.length : Nat) : Int) = j then 0 else gI M2 j := by
    intro j h0 h1
    rw [← hM3, gI_setN h0 (by simp; omega), gI_setN h0 (by simp; omega), gI_setN h0 (by omega)]
    by_cases h2 : (0 : Int) = j
    · rw [if_pos (by simpa using h2), if_pos h2]
    · rw [if_neg (by simpa using h2), if_neg h2]
      by_cases h3 : ((1 + w.length : Nat) : Int) = j
      · rw [if_pos h3, if_pos h3]; rfl
      · rw [if_neg h3, if_neg h3, if_neg h3]
  refine ⟨by omega, ?_, fun j h0 h1 => ?_, fun j h0 h1 => b2 j h0 (by omega)⟩
  · rw [b3 0 (by omega) (by omega), lowM3 0 (by omega) (by omega), if_pos rfl]; omega
  · rw [b3 (j + 1) (by omega) (by omega), lowM3 (j + 1) (by omega) (by omega), if_neg (by omega), if_neg (by omega)]
    exact a2 j h0 (by omega)
theorem skips_level (w l : List Int) (dir : Int) (h : okD w 0) : levelS ([21] ++ w ++ [22] ++ l) dir = levelS l dir := by
  unfold levelS
  split
  · rfl
  · congr 1
    obtain ⟨h1, h2, h3, h4⟩ := match_all w l h
    have hN : ([21] ++ w ++ [22] ++ l).length = w.length + 2 + l.length := by simp; omega
    unfold firstS
    rw [hN]
    generalize hL : [21] ++ w ++ [22] ++ l = L at *
    have g0 : gI L 0 = 21 := by rw [← hL]; simp [gI]
    have gj : ∀ j : Int, 0 ≤ j → j < l.length → gI L (j + (w.length + 2 : Nat)) = gI l j := by
      intro j h0 h1
      rw [← hL, gI_append_right (by simp; omega)]; congr 1; simp; omega
    rw [show max (0 : Int) 0 = 0 from rfl, fst, if_pos ⟨by omega, by rw [g0]; decide⟩, if_pos (by rw [g0]; decide), if_neg (by rw [h2]; omega), h2]
    have e1 : (min ((w.length + 2 + l.length : Nat) : Int) ((w.length + 2 + l.length : Nat) : Int)) = (l.length : Int) + (w.length + 2 : Nat) := by omega
    rw [e1, show (w.length : Int) + 1 + 1 = 0 + (w.length + 2 : Nat) from by omega]
    rw [fst_shift (matchS_ok l) (Int.le_refl _) (fun j h0 hj => ⟨gj j h0 hj, h4 j h0 hj⟩) _ 0 (Int.le_refl _)]
    rw [show w.length + 2 + l.length = (l.length + 1) + (w.length + 1) from by omega, fst_fuel' (matchS_ok l) (Int.le_refl _) (Int.le_refl _) (by omega)]
    congr 1; omega
theorem skips_isol (w : List Int) (h : okD w 0) : isolS ([21] ++ w ++ [22]) 0 = levelS w 0 := by
  obtain ⟨h1, h2, h3, _⟩ := match_all w [] h
  simp only [List.append_nil, List.length_nil, Nat.add_zero] at h1 h2 h3
  have hN : ([21] ++ w ++ [22]).length = w.length + 2 := by simp
  have g0 : gI ([21] ++ w ++ [22]) 0 = 21 := by simp [gI]
  have gj : ∀ j : Int, 0 ≤ j → j < w.length → gI ([21] ++ w ++ [22]) (j + (1 : Nat)) = gI w j := by
    intro j h0 h1
    rw [gI_append_left (by omega) (by simp; omega), gI_append_right (by simp; omega)]; congr 1; simp
  unfold isolS levelS
  rw [if_neg (by rw [g0, hN]; simp [opens]; omega), if_neg (by rw [g0]; simp), if_neg (by omega), h2, if_neg (by omega)]
  congr 1
  unfold firstS
  rw [hN]
  generalize [21] ++ w ++ [22] = L at *
  rw [show min ((w.length : Int) + 1) ((w.length + 2 : Nat) : Int) = (w.length : Int) + (1 : Nat) from by omega, show max (0 : Int) (0 + 1) = 0 + (1 : Nat) from rfl]
  rw [fst_shift (matchS_ok w) (Int.le_refl _) (fun j h0 hj => ⟨gj j h0 hj, h3 j h0 hj⟩) _ 0 (Int.le_refl _)]
  rw [show w.length + 2 + 1 = (w.length + 1) + 2 from by omega, fst_fuel' (matchS_ok w) (Int.le_refl _) (Int.le_refl _) (by omega)]
  congr 1; omega
end Go.Proofs.YtlfihcndchjgcaaDoor
