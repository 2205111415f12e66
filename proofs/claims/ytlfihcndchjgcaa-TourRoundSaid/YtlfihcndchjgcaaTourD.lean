/- Own text of this session: TourD. -/
import Derived.Test.YtlfihcndchjgcaaTourC
set_option linter.unusedVariables false
set_option linter.unusedSimpArgs false
namespace Go.Proofs.Ytlfihcndchjgcaa
open Go Go.Ab
/-! Counting, ranks: plain mathematics. -/
def cnt (p : Nat → Prop) [DecidablePred p] : Nat → Nat
  | 0 => 0
  | m + 1 => cnt p m + (if p m then 1 else 0)
section
variable {p q : Nat → Prop} [DecidablePred p] [DecidablePred q]
theorem cnt_mono : ∀ {m : Nat}, (∀ i, i < m → p i → q i) → cnt p m ≤ cnt q m
  | 0, _ => Nat.le_refl _
  | m + 1, h => by
    have h1 := cnt_mono (m := m) (fun i hi => h i (by omega))
    have h2 := h m (by omega)
    simp only [cnt]
    by_cases hp : p m
    · rw [if_pos hp, if_pos (h2 hp)]; omega
    · rw [if_neg hp]; omega
theorem cnt_congr {m : Nat} (h : ∀ i, i < m → (p i ↔ q i)) : cnt p m = cnt q m := Nat.le_antisymm (cnt_mono fun i hi => (h i hi).1) (cnt_mono fun i hi => (h i hi).2)
theorem cnt_or : ∀ {m : Nat}, (∀ i, i < m → ¬ (p i ∧ q i)) → cnt (fun i => p i ∨ q i) m = cnt p m + cnt q m
  | 0, _ => rfl
  | m + 1, h => by
    have h1 := cnt_or (m := m) (fun i hi => h i (by omega))
    have h2 := h m (by omega)
    simp only [cnt, h1]
    by_cases hp : p m <;> by_cases hq : q m
    · exact absurd ⟨hp, hq⟩ h2
    · rw [if_pos (.inl hp), if_pos hp, if_neg hq]; omega
    · rw [if_pos (.inr hq), if_neg hp, if_pos hq]; omega
    · rw [if_neg (by simp [hp, hq]), if_neg hp, if_neg hq]; omega
end
theorem cnt_one (a : Nat) : ∀ m : Nat, cnt (fun i => i = a) m = if a < m then 1 else 0
  | 0 => rfl
  | m + 1 => by
    simp only [cnt, cnt_one a m]
    by_cases h : m = a
    · subst h; rw [if_neg (by omega), if_pos rfl, if_pos (by omega)]
    · rw [if_neg h]
      by_cases h2 : a < m
      · rw [if_pos h2, if_pos (by omega)]
      · rw [if_neg h2, if_neg (by omega)]
theorem cnt_all : ∀ m : Nat, cnt (fun _ => True) m = m
  | 0 => rfl
  | m + 1 => by simp only [cnt, cnt_all m, if_true]
theorem cnt_none : ∀ m : Nat, cnt (fun _ => False) m = 0
  | 0 => rfl
  | m + 1 => by simp only [cnt, cnt_none m, if_false]
structure Ord (n : Nat) (L : Nat → Nat → Prop) : Prop where
  irr : ∀ i, i < n → ¬ L i i
  tr : ∀ i j k, i < n → j < n → k < n → L i j → L j k → L i k
  tot : ∀ i j, i < n → j < n → i ≠ j → L i j ∨ L j i
section
variable {n : Nat} {L : Nat → Nat → Prop} [∀ j, DecidablePred fun i => L i j] (o : Ord n L)
def rk (n : Nat) (L : Nat → Nat → Prop) [∀ j, DecidablePred fun i => L i j] (j : Nat) : Nat := cnt (fun i => L i j) n
include o
theorem rk_up {a : Nat} (ha : a < n) : cnt (fun i => L i a ∨ i = a) n = rk n L a + 1 := by
  rw [cnt_or (fun i hi h => by obtain ⟨h1, rfl⟩ := h; exact o.irr _ hi h1), cnt_one, if_pos ha]; rfl
theorem rk_lt {i j : Nat} (hi : i < n) (hj : j < n) (h : L i j) : rk n L i < rk n L j := by
  have h1 := rk_up o hi
  have h2 : cnt (fun k => L k i ∨ k = i) n ≤ cnt (fun k => L k j) n := cnt_mono (fun k hk h3 => by
    rcases h3 with h3 | rfl
    · exact o.tr _ _ _ hk hi hj h3 h
    · exact h)
  have : rk n L j = cnt (fun k => L k j) n := rfl
  omega
theorem rk_lt_n {i : Nat} (hi : i < n) : rk n L i < n := by
  have h1 := rk_up o hi
  have h2 : cnt (fun k => L k i ∨ k = i) n ≤ cnt (fun _ => True) n := cnt_mono (fun _ _ _ => trivial)
  rw [cnt_all] at h2; omega
theorem rk_inj {i j : Nat} (hi : i < n) (hj : j < n) (h : rk n L i = rk n L j) : i = j := by
  by_cases e : i = j
  · exact e
  · rcases o.tot i j hi hj e with h1 | h1
    · have := rk_lt o hi hj h1; omega
    · have := rk_lt o hj hi h1; omega
theorem rk_succ {a j : Nat} (ha : a < n) (hj : j < n) (h : L a j) (hm : ∀ i, i < n → L a i → i ≠ j → L j i) : rk n L j = rk n L a + 1 := by
  rw [← rk_up o ha]
  refine cnt_congr (fun i hi => ⟨fun h1 => ?_, fun h1 => ?_⟩)
  · by_cases e : i = a
    · exact .inr e
    · rcases o.tot i a hi ha e with h2 | h2
      · exact .inl h2
      · have hij : i ≠ j := by rintro rfl; exact o.irr _ hi h1
        exact absurd (o.tr _ _ _ hi hj hi h1 (hm i hi h2 hij)) (o.irr _ hi)
  · rcases h1 with h1 | rfl
    · exact o.tr _ _ _ hi ha hj h1 h
    · exact h
theorem rk_last {a : Nat} (ha : a < n) (h : ∀ i, i < n → ¬ L a i) : rk n L a + 1 = n := by
  rw [← rk_up o ha, cnt_congr (q := fun _ => True) (fun i hi => ⟨fun _ => trivial, fun _ => ?_⟩), cnt_all]
  by_cases e : i = a
  · exact .inr e
  · rcases o.tot i a hi ha e with h2 | h2
    · exact .inl h2
    · exact absurd h2 (h i hi)
omit o in
theorem rk_first {a : Nat} (ha : a < n) (h : ∀ i, i < n → ¬ L i a) : rk n L a = 0 := by
  show cnt _ n = 0
  rw [cnt_congr (q := fun _ => False) (fun i hi => ⟨fun h1 => h i hi h1, fun h => h.elim⟩), cnt_none]
end
/-! The best of unlike keys. -/
def Unlike (keys : List K2) : Prop := ∀ i j : Nat, i < keys.length → j < keys.length → gI keys (i : Int) = gI keys (j : Int) → i = j
abbrev Lk (keys : List K2) (i j : Nat) : Prop := ltK (gI keys (i : Int)) (gI keys (j : Int))
theorem ord_keys {keys : List K2} (h : Unlike keys) : Ord keys.length (Lk keys) := by
  refine ⟨fun i hi h1 => ?_, fun i j k _ _ _ h1 h2 => ?_, fun i j hi hj hij => ?_⟩
  · unfold Lk ltK at h1; omega
  · unfold Lk ltK at *; omega
  · have hne : gI keys (i : Int) ≠ gI keys (j : Int) := fun e => hij (h i j hi hj e)
    have h3 : ¬ ((gI keys (i : Int)).1 = (gI keys (j : Int)).1 ∧ (gI keys (i : Int)).2 = (gI keys (j : Int)).2) := fun e => hne (Prod.ext e.1 e.2)
    unfold Lk ltK; omega
theorem best_spec {keys : List K2} (hu : Unlike keys) {tst : K2 → Bool} {bet : K2 → K2 → Bool} {R : K2 → K2 → Prop} (htr : ∀ a b c, R a b → R b c → R a c) (htot : ∀ a b, a ≠ b → R a b ∨ R b a) (hb : ∀ a b, a ≠ b → (bet a b = true ↔ R a b)) : ∀ m : Nat, m ≤ keys.length →
    (bestI keys tst bet m = -1 ∧ ∀ i : Nat, i < m → tst (gI keys (i : Int)) = false) ∨ ∃ j : Nat, bestI keys tst bet m = j ∧ j < m ∧ tst (gI keys (j : Int)) = true ∧ ∀ i : Nat, i < m → i ≠ j → tst (gI keys (i : Int)) = true → R (gI keys (j : Int)) (gI keys (i : Int))
  | 0, _ => .inl ⟨rfl, fun i hi => by omega⟩
  | m + 1, hm => by
    have ih := best_spec (tst := tst) hu htr htot hb m (by omega)
    cases ht : tst (gI keys (m : Int)) with
    | false =>
      rw [bestI_n ht]
      rcases ih with ⟨h1, h2⟩ | ⟨j, h1, h2, h3, h4⟩
      · refine .inl ⟨h1, fun i hi => ?_⟩
        by_cases e : i = m
        · subst e; exact ht
        · exact h2 i (by omega)
      · refine .inr ⟨j, h1, by omega, h3, fun i hi hij hti => ?_⟩
        by_cases e : i = m
        · subst e; rw [ht] at hti; cases hti
        · exact h4 i (by omega) hij hti
    | true =>
      rcases ih with ⟨h1, h2⟩ | ⟨j, h1, h2, h3, h4⟩
      · rw [bestI_t ht (.inl h1)]
        refine .inr ⟨m, rfl, by omega, ht, fun i hi hij hti => ?_⟩
        rw [h2 i (by omega)] at hti; cases hti
      · have hne : gI keys (m : Int) ≠ gI keys (j : Int) := fun e => by have := hu m j (by omega) (by omega) e; omega
        cases hbt : bet (gI keys (m : Int)) (gI keys (bestI keys tst bet m)) with
        | true =>
          rw [bestI_t ht (.inr hbt)]
          rw [h1] at hbt
          have hR := (hb _ _ hne).1 hbt
          refine .inr ⟨m, rfl, by omega, ht, fun i hi hij hti => ?_⟩
          by_cases e : i = j
          · subst e; exact hR
          · exact htr _ _ _ hR (h4 i (by omega) e hti)
        | false =>
          rw [bestI_f (by rw [h1]; omega) hbt]
          rw [h1] at hbt
          have hR : R (gI keys (j : Int)) (gI keys (m : Int)) := by
            rcases htot _ _ hne with h | h
            · rw [(hb _ _ hne).2 h] at hbt; cases hbt
            · exact h
          refine .inr ⟨j, h1, by omega, h3, fun i hi hij hti => ?_⟩
          by_cases e : i = m
          · subst e; exact hR
          · exact h4 i (by omega) hij hti
/-- The next one is one rank on, or the first behind the last. -/
theorem next_spec {keys : List K2} (hu : Unlike keys) {a : Nat} (ha : a < keys.length) : ∃ j : Nat, j < keys.length ∧ (nextS keys (gI keys (a : Int))).1 = j ∧
    ((nextS keys (gI keys (a : Int))).2 = false ∧ rk keys.length (Lk keys) j = rk keys.length (Lk keys) a + 1 ∨ (nextS keys (gI keys (a : Int))).2 = true ∧ rk keys.length (Lk keys) j = 0 ∧ rk keys.length (Lk keys) a + 1 = keys.length) := by
  have o := ord_keys hu
  have htr : ∀ a b c : K2, ltK a b → ltK b c → ltK a c := by intro a b c; unfold ltK; omega
  have htot : ∀ a b : K2, a ≠ b → ltK a b ∨ ltK b a := by
    intro a b h
    have h3 : ¬ (a.1 = b.1 ∧ a.2 = b.2) := fun e => h (Prod.ext e.1 e.2)
    unfold ltK; omega
  have hb : ∀ a b : K2, a ≠ b → (decide (ltK a b) = true ↔ ltK a b) := fun a b _ => decide_eq_true_iff
  rcases best_spec hu (tst := fun q => decide (ltK (gI keys (a : Int)) q)) htr htot hb keys.length (Nat.le_refl _) with ⟨h1, h2⟩ | ⟨j, h1, h2, h3, h4⟩
  · have hs := stepS_2 h1
    rcases best_spec hu (tst := fun _ => true) htr htot hb keys.length (Nat.le_refl _) with ⟨g1, g2⟩ | ⟨j, g1, g2, g3, g4⟩
    · exact absurd (g2 a ha) (by simp)
    · refine ⟨j, g2, by unfold nextS; rw [hs]; exact g1, .inr ⟨by unfold nextS; rw [hs]; exact decide_eq_true (by rw [g1]; omega), ?_, ?_⟩⟩
      · exact rk_first g2 (fun i hi h => by
          have hij : i ≠ j := by rintro rfl; exact o.irr _ hi h
          exact o.irr _ hi (o.tr _ _ _ hi g2 hi h (g4 i hi hij rfl)))
      · exact rk_last o ha (fun i hi h => by have := h2 i hi; rw [decide_eq_false_iff_not] at this; exact this h)
  · have hs := stepS_1 (keys := keys) (tst := fun q => decide (ltK (gI keys (a : Int)) q)) (bet := fun a b => decide (ltK a b)) (by rw [h1]; omega)
    refine ⟨j, h2, by unfold nextS; rw [hs]; exact h1, .inl ⟨by unfold nextS; rw [hs], ?_⟩⟩
    exact rk_succ o ha h2 (of_decide_eq_true h3) (fun i hi h hij => h4 i hi hij (decide_eq_true h))
theorem prev_spec {keys : List K2} (hu : Unlike keys) {a : Nat} (ha : a < keys.length) : ∃ j : Nat, j < keys.length ∧ (prevS keys (gI keys (a : Int))).1 = j ∧
    ((prevS keys (gI keys (a : Int))).2 = false ∧ rk keys.length (Lk keys) a = rk keys.length (Lk keys) j + 1 ∨ (prevS keys (gI keys (a : Int))).2 = true ∧ rk keys.length (Lk keys) a = 0 ∧ rk keys.length (Lk keys) j + 1 = keys.length) := by
  have o := ord_keys hu
  have htr : ∀ a b c : K2, ltK b a → ltK c b → ltK c a := by intro a b c; unfold ltK; omega
  have htot : ∀ a b : K2, a ≠ b → ltK b a ∨ ltK a b := by
    intro a b h
    have h3 : ¬ (a.1 = b.1 ∧ a.2 = b.2) := fun e => h (Prod.ext e.1 e.2)
    unfold ltK; omega
  have hb : ∀ a b : K2, a ≠ b → ((!decide (ltK a b)) = true ↔ ltK b a) := fun a b h => by
    have h1 := htot a b h
    have h2 : ¬ (ltK a b ∧ ltK b a) := by unfold ltK; omega
    by_cases h3 : ltK a b
    · rw [decide_eq_true h3]; simp; exact fun h4 => h2 ⟨h3, h4⟩
    · rw [decide_eq_false h3]; simp; rcases h1 with h1 | h1
      · exact h1
      · exact absurd h1 h3
  rcases best_spec hu (R := fun a b => ltK b a) (tst := fun q => decide (ltK q (gI keys (a : Int)))) htr htot hb keys.length (Nat.le_refl _) with ⟨h1, h2⟩ | ⟨j, h1, h2, h3, h4⟩
  · have hs := stepS_2 h1
    rcases best_spec hu (R := fun a b => ltK b a) (tst := fun _ => true) htr htot hb keys.length (Nat.le_refl _) with ⟨g1, g2⟩ | ⟨j, g1, g2, g3, g4⟩
    · exact absurd (g2 a ha) (by simp)
    · refine ⟨j, g2, by unfold prevS; rw [hs]; exact g1, .inr ⟨by unfold prevS; rw [hs]; exact decide_eq_true (by rw [g1]; omega), ?_, ?_⟩⟩
      · exact rk_first ha (fun i hi h => by have := h2 i hi; rw [decide_eq_false_iff_not] at this; exact this h)
      · exact rk_last o g2 (fun i hi h => by
          have hij : i ≠ j := by rintro rfl; exact o.irr _ hi h
          exact o.irr _ hi (o.tr _ _ _ hi g2 hi (g4 i hi hij rfl) h))
  · have hs := stepS_1 (keys := keys) (tst := fun q => decide (ltK q (gI keys (a : Int)))) (bet := fun a b => !decide (ltK a b)) (by rw [h1]; omega)
    refine ⟨j, h2, by unfold prevS; rw [hs]; exact h1, .inl ⟨by unfold prevS; rw [hs], ?_⟩⟩
    refine rk_succ o h2 ha (of_decide_eq_true h3) (fun i hi h hij => ?_)
    rcases o.tot i a hi ha hij with h5 | h5
    · have hne : i ≠ j := by rintro rfl; exact o.irr _ hi h
      exact absurd (o.tr _ _ _ hi h2 hi (h4 i hi hne (decide_eq_true h5)) h) (o.irr _ hi)
    · exact h5
end Go.Proofs.Ytlfihcndchjgcaa
