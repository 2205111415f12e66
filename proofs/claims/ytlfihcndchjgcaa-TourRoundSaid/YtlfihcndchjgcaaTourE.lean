/- Own text of this session: TourE. -/
import Derived.Test.YtlfihcndchjgcaaTourD
set_option linter.unusedVariables false
set_option linter.unusedSimpArgs false
namespace Go.Proofs.Ytlfihcndchjgcaa
open Go Go.Ab
theorem iaP_pt {v : Value} {size len m : Nat} {i : Int} {k : IntKind} {j : Int} (h0 : 0 ≤ j) (h1 : j < len) : iaP len m (ptA v size i) (.int k j) = some (ptO v size i (j.toNat * m)) := by
  simp only [iaP, ptA, ptO]; rw [if_pos ⟨h0, h1⟩]
@[reducible] def uE : Enc K2 := ⟨fun c => [.int .u16 c.1, .int .u16 c.2], 2, fun _ => rfl, by decide⟩
@[reducible] def blE : Enc Bool := ⟨fun b => [.bool b], 1, fun _ => rfl, by decide⟩
/-- Each pair once. -/
def ukeys : List K2 → List K2 → List K2
  | acc, [] => acc
  | acc, c :: l => ukeys (if c ∈ acc then acc else acc ++ [c]) l
theorem ukeys_append (acc : List K2) : ∀ (l r : List K2), ukeys acc (l ++ r) = ukeys (ukeys acc l) r := by
  intro l
  induction l generalizing acc with
  | nil => intro r; rfl
  | cons c l ih => intro r; exact ih _ r
theorem ukeys_len : ∀ (l acc : List K2), (ukeys acc l).length ≤ acc.length + l.length
  | [], acc => Nat.le_refl _
  | c :: l, acc => by
    have := ukeys_len l (if c ∈ acc then acc else acc ++ [c])
    simp only [ukeys, List.length_cons]
    split at this <;> rename_i h
    · rw [if_pos h]; omega
    · rw [if_neg h]; simp only [List.length_append, List.length_cons, List.length_nil] at this; omega
theorem ukeys_mem : ∀ (l acc : List K2) (c : K2), c ∈ ukeys acc l → c ∈ acc ∨ c ∈ l
  | [], acc, c, h => .inl h
  | d :: l, acc, c, h => by
    rcases ukeys_mem l _ c h with h | h
    · split at h
      · exact .inl h
      · rcases List.mem_append.1 h with h | h
        · exact .inl h
        · simp only [List.mem_singleton] at h; subst h; exact .inr (.head _)
    · exact .inr (.tail _ h)
theorem ukeys_nodup : ∀ (l acc : List K2), acc.Nodup → (ukeys acc l).Nodup
  | [], acc, h => h
  | c :: l, acc, h => by
    simp only [ukeys]
    refine ukeys_nodup l _ ?_
    split
    · exact h
    · rename_i hc
      rw [List.nodup_append]
      exact ⟨h, by simp, fun a ha b hb => by simp only [List.mem_singleton] at hb; subst hb; rintro rfl; exact hc ha⟩
theorem ukeys_step {l : List K2} {i : Nat} (h : i < l.length) : ukeys [] (l.take (i + 1)) = if gI l (i : Int) ∈ ukeys [] (l.take i) then ukeys [] (l.take i) else ukeys [] (l.take i) ++ [gI l (i : Int)] := by
  rw [take_gI h, ukeys_append]; rfl
theorem unlike_of {keys : List K2} (h : keys.Nodup) : Unlike keys := by
  intro i j hi hj e
  rw [gI_getElem hi, gI_getElem hj] at e
  exact (List.getElem_inj h).1 e
def wrp (L s : Nat) : Nat := if s < L then s else s - L
theorem round_spec {keys : List K2} (hu : Unlike keys) {a : Nat} (ha : a < keys.length) : ∃ (j : Nat) (w : Bool), j < keys.length ∧ nextS keys (gI keys (a : Int)) = ((j : Int), w) ∧ prevS keys (gI keys (j : Int)) = ((a : Int), w) ∧
    (w = false ∧ rk keys.length (Lk keys) j = rk keys.length (Lk keys) a + 1 ∨ w = true ∧ rk keys.length (Lk keys) j = 0 ∧ rk keys.length (Lk keys) a + 1 = keys.length) := by
  have o := ord_keys hu
  obtain ⟨j, hj, h1, h2⟩ := next_spec hu ha
  obtain ⟨b, hb, g1, g2⟩ := prev_spec hu hj
  rcases h2 with ⟨h2, h3⟩ | ⟨h2, h3, h4⟩
  · rcases g2 with ⟨g2, g3⟩ | ⟨g2, g3, g4⟩
    · obtain rfl := rk_inj o hb ha (by omega)
      exact ⟨j, false, hj, Prod.ext h1 h2, Prod.ext g1 g2, .inl ⟨rfl, h3⟩⟩
    · omega
  · rcases g2 with ⟨g2, g3⟩ | ⟨g2, g3, g4⟩
    · omega
    · obtain rfl := rk_inj o hb ha (by omega)
      exact ⟨j, true, hj, Prod.ext h1 h2, Prod.ext g1 g2, .inr ⟨rfl, h3, h4⟩⟩
theorem known_step {acc : List K2} {c : K2} {j : Nat} (h : j < acc.length) (hn : ¬ c ∈ acc.take j) : decide (((gI acc (j : Int)).1 : Int) = (c.1 : Int) ∧ ((gI acc (j : Int)).2 : Int) = (c.2 : Int)) = decide (c ∈ acc.take (j + 1)) := by
  rw [take_gI h]
  refine decide_eq_decide.2 ?_
  simp only [List.mem_append, List.mem_singleton, hn, false_or]
  constructor
  · rintro ⟨h1, h2⟩; exact Prod.ext (by omega) (by omega)
  · intro h; rw [h]; exact ⟨rfl, rfl⟩
theorem k_NextE {v : Value} {keys : List K2} {c : K2} {r : Int} {w : Bool} {H : Heap} {N X : Value → Heap → Prop} (hr : nextS keys c = (r, w)) (hv : IsS kE H v keys) (hk : ∀ q ∈ keys, okK q) (hn : keys.length ≤ 1000) (hc : okK c)
    (k : ∀ H', Fr H H' → N (.tuple #[.int .i64 r, .bool w]) H') : ACall Try.prog 13 [v, cK c] H (EndK N X) := k_tour_Next hv hk hn hc (fun H' f => by rw [hr]; exact k H' f)
theorem k_PrevE {v : Value} {keys : List K2} {c : K2} {r : Int} {w : Bool} {H : Heap} {N X : Value → Heap → Prop} (hr : prevS keys c = (r, w)) (hv : IsS kE H v keys) (hk : ∀ q ∈ keys, okK q) (hn : keys.length ≤ 1000) (hc : okK c)
    (k : ∀ H', Fr H H' → N (.tuple #[.int .i64 r, .bool w]) H') : ACall Try.prog 14 [v, cK c] H (EndK N X) := k_tour_Prev hv hk hn hc (fun H' f => by rw [hr]; exact k H' f)
theorem k_law25_TourRound {v : Value} {l : List K2} {start : Int} {H : Heap} {N X : Value → Heap → Prop} (hv : IsS uE H v l) (hl : ∀ c ∈ l, c.1 ≤ 65535 ∧ c.2 ≤ 65535) (hs0 : 0 ≤ start) (hs1 : start ≤ 255) (hln : l.length ≤ 140737488355328)
    (k : ∀ H', Fr H H' → N (.bool true) H') : ACall Try.prog 4 [v, .int .u8 start] H (EndK N X) := by
  refine call_law25_TourRound (fun e => ?_)
  have hp0 := (Hp.refl H).nil 1
  have hlv := hv.len
  (repeat' (first | refine z0 ?_ | refine z1 ?_ | refine z2 ?_ | refine z3 ?_ | refine z4 ?_ | refine z5 ?_ | refine z6 ?_ | refine z7 ?_ | refine z8 ?_ | refine z9 ?_ | refine z10 ?_ | refine z11 ?_ | refine z12 ?_ | refine z13 ?_ | refine z14 ?_ | refine z16 ?_ | refine z17 ?_ | refine z18 ?_ | refine z19 ?_ | refine z20 ?_ | refine z24 ?_ | refine z25 ?_ | refine z26 ?_ | refine z28 ?_ | refine z29 ?_ | refine z30 ?_ | refine z32 ?_ | refine z33 ?_ | refine z35 ?_ | refine z36 ?_ | refine z41 ?_ | refine z42 ?_ | refine z43 ?_ | refine z47 ?_ | refine z48 ?_ | refine z49 ?_ | refine z50 ?_ | refine z51 ?_ | refine z52 ?_ | refine z53 ?_ | refine z54 ?_ | refine z55 ?_ | refine z56 ?_ | refine z57 ?_ | refine z58 ?_ | refine z59 ?_ | refine z60 ?_ | refine z61 ?_ | refine z62 ?_ | refine z64 fun _ _ => ?_ | refine z65 ?_ | refine z68 ?_ | refine z76 ?_ | refine z77 ?_ | refine z78 fun _ _ _ => ?_ | refine z81 fun _ _ _ => ?_ | refine z82 fun _ _ _ => ?_ | refine z83 fun _ _ _ => ?_ | refine z84 fun _ _ => ?_ | refine z88 (r_end ?_) | refine z89 (r_end ?_) | refine z90 (r_end ?_) | refine z91 (r_end ?_) | refine z92 (r_end ?_) | refine z93 (r_end ?_) | refine z94 (r_end ?_) | refine p_call rfl (k_law25_alive ?_) | refine z95 (fun _ => ?_) (fun _ => ?_) | refine z96 (fun _ => ?_) (fun _ => ?_) | refine z97 (fun _ => ?_) (fun _ => ?_) | refine z98 (fun _ => ?_) (fun _ => ?_) | refine z99 (fun _ => ?_) (fun _ => ?_) | refine z100 (fun _ => ?_) (fun _ => ?_) | refine z101 (fun _ => ?_) (fun _ => ?_) | refine z102 (fun _ => ?_) (fun _ => ?_) | refine z103 (fun _ => ?_) (fun _ => ?_)))
  · exact k _ (Fr.refl H)
  have hll : l.length ≤ 60 := by have h := (by assumption : ¬ (60 : Int) < l.length); omega
  refine lp2 5 6 [0, 1] (fun v5 v6 H' n => ∃ (i : Nat), v6 = .int .i64 i ∧ i ≤ l.length ∧ Hp H H' [.sl 1 v5 (kE.all (ukeys [] (l.take i)))] ∧ n = l.length - i) rfl rfl rfl rfl _ ⟨0, rfl, by omega, hp0, rfl⟩ ?_
  rintro v5 _ H1 n e' ⟨i, rfl, hi, hp, rfl⟩
  have hv1 := hv.fr hp.fr
  have hal := ukeys_len (l.take i) []
  have htl : (l.take i).length = i := by rw [List.length_take]; omega
  simp only [List.length_nil, htl] at hal
  have hkI : IsS kE H1 v5 (ukeys [] (l.take i)) := hp.is2 (by first | exact .head _ | exact .tail _ (.head _) | exact .tail _ (.tail _ (.head _)) | exact .tail _ (.tail _ (.tail _ (.head _))) | exact .tail _ (.tail _ (.tail _ (.tail _ (.head _)))) | exact .tail _ (.tail _ (.tail _ (.tail _ (.tail _ (.head _)))))) rfl
  generalize hacc : ukeys [] (l.take i) = acc at *
  (repeat' (first | refine z0 ?_ | refine z1 ?_ | refine z2 ?_ | refine z3 ?_ | refine z4 ?_ | refine z5 ?_ | refine z6 ?_ | refine z7 ?_ | refine z8 ?_ | refine z9 ?_ | refine z10 ?_ | refine z11 ?_ | refine z12 ?_ | refine z13 ?_ | refine z14 ?_ | refine z16 ?_ | refine z17 ?_ | refine z18 ?_ | refine z19 ?_ | refine z20 ?_ | refine z24 ?_ | refine z25 ?_ | refine z26 ?_ | refine z28 ?_ | refine z29 ?_ | refine z30 ?_ | refine z32 ?_ | refine z33 ?_ | refine z35 ?_ | refine z36 ?_ | refine z41 ?_ | refine z42 ?_ | refine z43 ?_ | refine z47 ?_ | refine z48 ?_ | refine z49 ?_ | refine z50 ?_ | refine z51 ?_ | refine z52 ?_ | refine z53 ?_ | refine z54 ?_ | refine z55 ?_ | refine z56 ?_ | refine z57 ?_ | refine z58 ?_ | refine z59 ?_ | refine z60 ?_ | refine z61 ?_ | refine z62 ?_ | refine z64 fun _ _ => ?_ | refine z65 ?_ | refine z68 ?_ | refine z76 ?_ | refine z77 ?_ | refine z78 fun _ _ _ => ?_ | refine z81 fun _ _ _ => ?_ | refine z82 fun _ _ _ => ?_ | refine z83 fun _ _ _ => ?_ | refine z84 fun _ _ => ?_ | refine z88 (r_end ?_) | refine z89 (r_end ?_) | refine z90 (r_end ?_) | refine z91 (r_end ?_) | refine z92 (r_end ?_) | refine z93 (r_end ?_) | refine z94 (r_end ?_) | refine p_iaA rfl rfl (iaP_pt (by omega) (by omega)) ?_ | refine p_ld rfl (IsS.ldO hv1 (by omega) (by omega) rfl rfl) ?_ | refine z95 (fun _ => ?_) (fun _ => ?_) | refine z96 (fun _ => ?_) (fun _ => ?_) | refine z97 (fun _ => ?_) (fun _ => ?_) | refine z98 (fun _ => ?_) (fun _ => ?_) | refine z99 (fun _ => ?_) (fun _ => ?_) | refine z100 (fun _ => ?_) (fun _ => ?_) | refine z101 (fun _ => ?_) (fun _ => ?_) | refine z102 (fun _ => ?_) (fun _ => ?_) | refine z103 (fun _ => ?_) (fun _ => ?_)))
  · have hc16 := hl (gI l (i : Int)) (gI_mem (by omega) (by omega))
    have hstep := ukeys_step (l := l) (i := i) (by omega)
    rw [hacc] at hstep
    have hmem : ∀ q ∈ acc, q.1 ≤ 65535 ∧ q.2 ≤ 65535 := fun q hq => by
      rw [← hacc] at hq
      rcases ukeys_mem _ _ _ hq with h | h
      · cases h
      · exact hl _ (List.mem_of_mem_take h)
    refine lp2 8 9 [0, 1, 5, 6, 7] (fun v8 v9 H' n => ∃ (j : Nat), v8 = .bool (decide (gI l (i : Int) ∈ acc.take j)) ∧ v9 = .int .i64 j ∧ j ≤ acc.length ∧ H1 = H' ∧ n = acc.length - j) rfl rfl rfl rfl _ ⟨0, by simp, rfl, by omega, rfl, rfl⟩ ?_
    rintro _ _ _ n e2 ⟨j, rfl, rfl, hj, rfl, rfl⟩
    have hjm : j < acc.length → (gI acc (j : Int)).1 ≤ 65535 ∧ (gI acc (j : Int)).2 ≤ 65535 := fun h => hmem _ (gI_mem (by omega) (by omega))
    have o1 : okN ((gI l (i : Int)).1 : Int) := by show ((gI l (i : Int)).1 : Int).natAbs < _; omega
    have o2 : okN ((gI l (i : Int)).2 : Int) := by show ((gI l (i : Int)).2 : Int).natAbs < _; omega
    have heq : j < acc.length → binA .eql (.complex .f64 (flN (gI acc (j : Int)).1) (flN (gI acc (j : Int)).2)) (.complex .f64 (flN (gI l (i : Int)).1) (flN (gI l (i : Int)).2)) = some (.bool (decide (((gI acc (j : Int)).1 : Int) = (gI l (i : Int)).1 ∧ ((gI acc (j : Int)).2 : Int) = (gI l (i : Int)).2))) := fun h => by
      have h1 := hjm h
      have o3 : okN ((gI acc (j : Int)).1 : Int) := by show ((gI acc (j : Int)).1 : Int).natAbs < _; omega
      have o4 : okN ((gI acc (j : Int)).2 : Int) := by show ((gI acc (j : Int)).2 : Int).natAbs < _; omega
      exact c_eq o3 o4 o1 o2 rfl rfl
    (repeat' (first | refine z0 ?_ | refine z1 ?_ | refine z2 ?_ | refine z3 ?_ | refine z4 ?_ | refine z5 ?_ | refine z6 ?_ | refine z7 ?_ | refine z8 ?_ | refine z9 ?_ | refine z10 ?_ | refine z11 ?_ | refine z12 ?_ | refine z13 ?_ | refine z14 ?_ | refine z16 ?_ | refine z17 ?_ | refine z18 ?_ | refine z19 ?_ | refine z20 ?_ | refine z24 ?_ | refine z25 ?_ | refine z26 ?_ | refine z28 ?_ | refine z29 ?_ | refine z30 ?_ | refine z32 ?_ | refine z33 ?_ | refine z35 ?_ | refine z36 ?_ | refine z41 ?_ | refine z42 ?_ | refine z43 ?_ | refine z47 ?_ | refine z48 ?_ | refine z49 ?_ | refine z50 ?_ | refine z51 ?_ | refine z52 ?_ | refine z53 ?_ | refine z54 ?_ | refine z55 ?_ | refine z56 ?_ | refine z57 ?_ | refine z58 ?_ | refine z59 ?_ | refine z60 ?_ | refine z61 ?_ | refine z62 ?_ | refine z64 fun _ _ => ?_ | refine z65 ?_ | refine z68 ?_ | refine z76 ?_ | refine z77 ?_ | refine z78 fun _ _ _ => ?_ | refine z84 fun _ _ => ?_ | refine z88 (r_end ?_) | refine z89 (r_end ?_) | refine z90 (r_end ?_) | refine z91 (r_end ?_) | refine z92 (r_end ?_) | refine z93 (r_end ?_) | refine z94 (r_end ?_) | refine p_bin rfl rfl (heq (by omega)) ?_ | refine z95 (fun _ => ?_) (fun _ => ?_) | refine z96 (fun _ => ?_) (fun _ => ?_) | refine z97 (fun _ => ?_) (fun _ => ?_) | refine z98 (fun _ => ?_) (fun _ => ?_) | refine z99 (fun _ => ?_) (fun _ => ?_) | refine z100 (fun _ => ?_) (fun _ => ?_) | refine z101 (fun _ => ?_) (fun _ => ?_) | refine z102 (fun _ => ?_) (fun _ => ?_) | refine z103 (fun _ => ?_) (fun _ => ?_)))
    · have h := (by assumption : gI l (i : Int) ∈ acc.take j)
      exact lpE rfl ⟨acc.length - (j + 1), by omega, j + 1, by rw [decide_eq_true (show gI l (i : Int) ∈ acc.take (j + 1) by rw [take_gI (by omega)]; exact List.mem_append_left _ h)], rfl, by omega, rfl, rfl⟩
    · exact lpE rfl ⟨acc.length - (j + 1), by omega, j + 1, by rw [known_step (by omega) (by assumption)], rfl, by omega, rfl, rfl⟩
    · have h := (by assumption : ¬ gI l (i : Int) ∈ acc.take j)
      rw [List.take_of_length_le (by omega)] at h
      rw [if_neg h] at hstep
      refine h_app1 (T := kE) (gI l (i : Int)) (by assumption) rfl rfl (by first | exact .head | exact .tail .head | exact .tail (.tail .head) | exact .tail (.tail (.tail .head)) | exact .tail (.tail (.tail (.tail .head))) | exact .tail (.tail (.tail (.tail (.tail .head))))) rfl rfl rfl (by omega) (fun s H3 hp3 => ?_)
      (repeat' (first | refine z0 ?_ | refine z1 ?_ | refine z2 ?_ | refine z3 ?_ | refine z4 ?_ | refine z5 ?_ | refine z6 ?_ | refine z7 ?_ | refine z8 ?_ | refine z9 ?_ | refine z10 ?_ | refine z11 ?_ | refine z12 ?_ | refine z13 ?_ | refine z14 ?_ | refine z16 ?_ | refine z17 ?_ | refine z18 ?_ | refine z19 ?_ | refine z20 ?_ | refine z24 ?_ | refine z25 ?_ | refine z26 ?_ | refine z28 ?_ | refine z29 ?_ | refine z30 ?_ | refine z32 ?_ | refine z33 ?_ | refine z35 ?_ | refine z36 ?_ | refine z41 ?_ | refine z42 ?_ | refine z43 ?_ | refine z47 ?_ | refine z48 ?_ | refine z49 ?_ | refine z50 ?_ | refine z51 ?_ | refine z52 ?_ | refine z53 ?_ | refine z54 ?_ | refine z55 ?_ | refine z56 ?_ | refine z57 ?_ | refine z58 ?_ | refine z59 ?_ | refine z60 ?_ | refine z61 ?_ | refine z62 ?_ | refine z64 fun _ _ => ?_ | refine z65 ?_ | refine z68 ?_ | refine z76 ?_ | refine z77 ?_ | refine z78 fun _ _ _ => ?_ | refine z81 fun _ _ _ => ?_ | refine z82 fun _ _ _ => ?_ | refine z83 fun _ _ _ => ?_ | refine z84 fun _ _ => ?_ | refine z88 (r_end ?_) | refine z89 (r_end ?_) | refine z90 (r_end ?_) | refine z91 (r_end ?_) | refine z92 (r_end ?_) | refine z93 (r_end ?_) | refine z94 (r_end ?_) | refine z95 (fun _ => ?_) (fun _ => ?_) | refine z96 (fun _ => ?_) (fun _ => ?_) | refine z97 (fun _ => ?_) (fun _ => ?_) | refine z98 (fun _ => ?_) (fun _ => ?_) | refine z99 (fun _ => ?_) (fun _ => ?_) | refine z100 (fun _ => ?_) (fun _ => ?_) | refine z101 (fun _ => ?_) (fun _ => ?_) | refine z102 (fun _ => ?_) (fun _ => ?_) | refine z103 (fun _ => ?_) (fun _ => ?_)))
      exact lpE rfl ⟨l.length - (i + 1), by omega, i + 1, rfl, by omega, by rw [hstep]; exact hp3, rfl⟩
    · have h := (by assumption : gI l (i : Int) ∈ acc.take j)
      rw [List.take_of_length_le (by omega)] at h
      rw [if_pos h] at hstep
      exact lpE rfl ⟨l.length - (i + 1), by omega, i + 1, rfl, by omega, by rw [hstep]; exact hp, rfl⟩
  · obtain rfl : acc = [] := List.eq_nil_of_length_eq_zero (by omega)
    refine p_call rfl (k_NextE (c := (0, 0)) (r := -1) (w := false) rfl hkI (fun q hq => by cases hq) (by decide) ⟨by decide, by decide⟩ (Hp.then hp (fun H2 hp2 => ?_)))
    (repeat' (first | refine z0 ?_ | refine z1 ?_ | refine z2 ?_ | refine z3 ?_ | refine z4 ?_ | refine z5 ?_ | refine z6 ?_ | refine z7 ?_ | refine z8 ?_ | refine z9 ?_ | refine z10 ?_ | refine z11 ?_ | refine z12 ?_ | refine z13 ?_ | refine z14 ?_ | refine z16 ?_ | refine z17 ?_ | refine z18 ?_ | refine z19 ?_ | refine z20 ?_ | refine z24 ?_ | refine z25 ?_ | refine z26 ?_ | refine z28 ?_ | refine z29 ?_ | refine z30 ?_ | refine z32 ?_ | refine z33 ?_ | refine z35 ?_ | refine z36 ?_ | refine z41 ?_ | refine z42 ?_ | refine z43 ?_ | refine z47 ?_ | refine z48 ?_ | refine z49 ?_ | refine z50 ?_ | refine z51 ?_ | refine z52 ?_ | refine z53 ?_ | refine z54 ?_ | refine z55 ?_ | refine z56 ?_ | refine z57 ?_ | refine z58 ?_ | refine z59 ?_ | refine z60 ?_ | refine z61 ?_ | refine z62 ?_ | refine z64 fun _ _ => ?_ | refine z65 ?_ | refine z68 ?_ | refine z76 ?_ | refine z77 ?_ | refine z78 fun _ _ _ => ?_ | refine z81 fun _ _ _ => ?_ | refine z82 fun _ _ _ => ?_ | refine z83 fun _ _ _ => ?_ | refine z84 fun _ _ => ?_ | refine z88 (r_end ?_) | refine z89 (r_end ?_) | refine z90 (r_end ?_) | refine z91 (r_end ?_) | refine z92 (r_end ?_) | refine z93 (r_end ?_) | refine z94 (r_end ?_) | refine z95 (fun _ => ?_) (fun _ => ?_) | refine z96 (fun _ => ?_) (fun _ => ?_) | refine z97 (fun _ => ?_) (fun _ => ?_) | refine z98 (fun _ => ?_) (fun _ => ?_) | refine z99 (fun _ => ?_) (fun _ => ?_) | refine z100 (fun _ => ?_) (fun _ => ?_) | refine z101 (fun _ => ?_) (fun _ => ?_) | refine z102 (fun _ => ?_) (fun _ => ?_) | refine z103 (fun _ => ?_) (fun _ => ?_)))
    exact k _ hp2.fr
  have hok : ∀ q ∈ acc, okK q := fun q hq => by
    rw [← hacc] at hq
    rcases ukeys_mem _ _ _ hq with h | h
    · cases h
    · have := hl _ (List.mem_of_mem_take h); exact ⟨by omega, by omega⟩
  have hu : Unlike acc := unlike_of (by rw [← hacc]; exact ukeys_nodup _ _ List.nodup_nil)
  have o := ord_keys hu
  have hL : 0 < acc.length := by omega
  obtain ⟨a0, ha0, hlt0⟩ : ∃ a0 : Nat, start.tmod (acc.length : Int) = a0 ∧ a0 < acc.length := by
    have h1 := Int.tmod_nonneg (acc.length : Int) hs0
    have h2 := Int.tmod_lt_of_pos start (show (0 : Int) < acc.length by omega)
    exact ⟨(start.tmod acc.length).toNat, by omega, by omega⟩
  have hS := rk_lt_n o hlt0
  generalize hSS : rk acc.length (Lk acc) a0 = S at *
  (repeat' (first | refine z0 ?_ | refine z1 ?_ | refine z2 ?_ | refine z3 ?_ | refine z4 ?_ | refine z5 ?_ | refine z6 ?_ | refine z7 ?_ | refine z8 ?_ | refine z9 ?_ | refine z10 ?_ | refine z11 ?_ | refine z12 ?_ | refine z13 ?_ | refine z14 ?_ | refine z16 ?_ | refine z17 ?_ | refine z18 ?_ | refine z19 ?_ | refine z20 ?_ | refine z24 ?_ | refine z25 ?_ | refine z26 ?_ | refine z28 ?_ | refine z29 ?_ | refine z30 ?_ | refine z32 ?_ | refine z33 ?_ | refine z35 ?_ | refine z36 ?_ | refine z41 ?_ | refine z42 ?_ | refine z43 ?_ | refine z47 ?_ | refine z48 ?_ | refine z49 ?_ | refine z50 ?_ | refine z51 ?_ | refine z52 ?_ | refine z53 ?_ | refine z54 ?_ | refine z55 ?_ | refine z56 ?_ | refine z57 ?_ | refine z58 ?_ | refine z59 ?_ | refine z60 ?_ | refine z61 ?_ | refine z62 ?_ | refine z64 fun _ _ => ?_ | refine z65 ?_ | refine z68 ?_ | refine z76 ?_ | refine z77 ?_ | refine z78 fun _ _ _ => ?_ | refine z81 fun _ _ _ => ?_ | refine z82 fun _ _ _ => ?_ | refine z83 fun _ _ _ => ?_ | refine z84 fun _ _ => ?_ | refine z88 (r_end ?_) | refine z89 (r_end ?_) | refine z90 (r_end ?_) | refine z91 (r_end ?_) | refine z92 (r_end ?_) | refine z93 (r_end ?_) | refine z94 (r_end ?_) | refine p_cvIw rfl (wrap64 (by omega) (by omega)) ?_ | refine z95 (fun _ => ?_) (fun _ => ?_) | refine z96 (fun _ => ?_) (fun _ => ?_) | refine z97 (fun _ => ?_) (fun _ => ?_) | refine z98 (fun _ => ?_) (fun _ => ?_) | refine z99 (fun _ => ?_) (fun _ => ?_) | refine z100 (fun _ => ?_) (fun _ => ?_) | refine z101 (fun _ => ?_) (fun _ => ?_) | refine z102 (fun _ => ?_) (fun _ => ?_) | refine z103 (fun _ => ?_) (fun _ => ?_)))
  refine h_ms hp blE false rfl rfl rfl rfl rfl ⟨by omega, by omega, by omega⟩ rfl (fun v13 H2 hp2 => ?_)
  (repeat' (first | refine z0 ?_ | refine z1 ?_ | refine z2 ?_ | refine z3 ?_ | refine z4 ?_ | refine z5 ?_ | refine z6 ?_ | refine z7 ?_ | refine z8 ?_ | refine z9 ?_ | refine z10 ?_ | refine z11 ?_ | refine z12 ?_ | refine z13 ?_ | refine z14 ?_ | refine z16 ?_ | refine z17 ?_ | refine z18 ?_ | refine z19 ?_ | refine z20 ?_ | refine z24 ?_ | refine z25 ?_ | refine z26 ?_ | refine z28 ?_ | refine z29 ?_ | refine z30 ?_ | refine z32 ?_ | refine z33 ?_ | refine z35 ?_ | refine z36 ?_ | refine z41 ?_ | refine z42 ?_ | refine z43 ?_ | refine z47 ?_ | refine z48 ?_ | refine z49 ?_ | refine z50 ?_ | refine z51 ?_ | refine z52 ?_ | refine z53 ?_ | refine z54 ?_ | refine z55 ?_ | refine z56 ?_ | refine z57 ?_ | refine z58 ?_ | refine z59 ?_ | refine z60 ?_ | refine z61 ?_ | refine z62 ?_ | refine z64 fun _ _ => ?_ | refine z65 ?_ | refine z68 ?_ | refine z76 ?_ | refine z77 ?_ | refine z78 fun _ _ _ => ?_ | refine z81 fun _ _ _ => ?_ | refine z82 fun _ _ _ => ?_ | refine z83 fun _ _ _ => ?_ | refine z84 fun _ _ => ?_ | refine z88 (r_end ?_) | refine z89 (r_end ?_) | refine z90 (r_end ?_) | refine z91 (r_end ?_) | refine z92 (r_end ?_) | refine z93 (r_end ?_) | refine z94 (r_end ?_) | refine z95 (fun _ => ?_) (fun _ => ?_) | refine z96 (fun _ => ?_) (fun _ => ?_) | refine z97 (fun _ => ?_) (fun _ => ?_) | refine z98 (fun _ => ?_) (fun _ => ?_) | refine z99 (fun _ => ?_) (fun _ => ?_) | refine z100 (fun _ => ?_) (fun _ => ?_) | refine z101 (fun _ => ?_) (fun _ => ?_) | refine z102 (fun _ => ?_) (fun _ => ?_) | refine z103 (fun _ => ?_) (fun _ => ?_)))
  refine lp3 12 14 15 [1, 5, 13] (fun v12 v14 v15 H' n => ∃ (m a : Nat) (met : List Bool), v12 = .int .i64 a ∧ v14 = .int .i64 (if S + m < acc.length then 0 else 1) ∧ v15 = .int .i64 m ∧ a < acc.length ∧ m ≤ acc.length ∧ rk acc.length (Lk acc) a = wrp acc.length (S + m) ∧ met.length = acc.length ∧
      (∀ i : Nat, i < acc.length → gI met (i : Int) = true → ∃ t, 1 ≤ t ∧ t ≤ m ∧ rk acc.length (Lk acc) i = wrp acc.length (S + t)) ∧ Hp H H' [.sl 1 v13 (blE.all met), .sl 1 v5 (kE.all acc)] ∧ n = acc.length - m) rfl rfl rfl rfl rfl _
    ⟨0, a0, List.replicate acc.length false, by rw [ha0], by rw [if_pos (by omega)], rfl, hlt0, by omega, by rw [hSS, wrp, if_pos (by omega)]; omega, by simp, ?_, by simpa using hp2, rfl⟩ ?_
  · intro i hi h
    rw [gI_getElem (by simp; exact hi)] at h; simp at h
  rintro _ _ _ H3 n e3 ⟨m, a, met, rfl, rfl, rfl, ha, hm, hra, hml, hmet, hp3, rfl⟩
  have hwr : (if S + m < acc.length then (0 : Int) else 1) = 0 ∨ (if S + m < acc.length then (0 : Int) else 1) = 1 := by split <;> simp
  obtain ⟨j, w, hj, hnx, hpv, hcase⟩ := round_spec hu ha
  have hmj : m < acc.length → gI met (j : Int) = false := fun hm1 => by
    cases hg : gI met (j : Int) with
    | false => rfl
    | true =>
      obtain ⟨t, h1, h2, h3⟩ := hmet j hj hg
      unfold wrp at hra h3
      split at hra <;> split at h3 <;> rcases hcase with ⟨_, h4⟩ | ⟨_, h4, h5⟩ <;> omega
  have hja : okK (gI acc (a : Int)) := hok _ (gI_mem (by omega) (by omega))
  have hjj : okK (gI acc (j : Int)) := hok _ (gI_mem (by omega) (by omega))
  (repeat' (first | refine z0 ?_ | refine z1 ?_ | refine z2 ?_ | refine z3 ?_ | refine z4 ?_ | refine z5 ?_ | refine z6 ?_ | refine z7 ?_ | refine z8 ?_ | refine z9 ?_ | refine z10 ?_ | refine z11 ?_ | refine z12 ?_ | refine z13 ?_ | refine z14 ?_ | refine z16 ?_ | refine z17 ?_ | refine z18 ?_ | refine z19 ?_ | refine z20 ?_ | refine z24 ?_ | refine z25 ?_ | refine z26 ?_ | refine z28 ?_ | refine z29 ?_ | refine z30 ?_ | refine z32 ?_ | refine z33 ?_ | refine z35 ?_ | refine z36 ?_ | refine z41 ?_ | refine z42 ?_ | refine z43 ?_ | refine z47 ?_ | refine z48 ?_ | refine z49 ?_ | refine z50 ?_ | refine z51 ?_ | refine z52 ?_ | refine z53 ?_ | refine z54 ?_ | refine z55 ?_ | refine z56 ?_ | refine z57 ?_ | refine z58 ?_ | refine z59 ?_ | refine z60 ?_ | refine z61 ?_ | refine z62 ?_ | refine z64 fun _ _ => ?_ | refine z65 ?_ | refine z68 ?_ | refine z76 ?_ | refine z77 ?_ | refine z78 fun _ _ _ => ?_ | refine z81 fun _ _ _ => ?_ | refine z82 fun _ _ _ => ?_ | refine z83 fun _ _ _ => ?_ | refine z84 fun _ _ => ?_ | refine z88 (r_end ?_) | refine z89 (r_end ?_) | refine z90 (r_end ?_) | refine z91 (r_end ?_) | refine z92 (r_end ?_) | refine z93 (r_end ?_) | refine z94 (r_end ?_) | refine z95 (fun _ => ?_) (fun _ => ?_) | refine z96 (fun _ => ?_) (fun _ => ?_) | refine z97 (fun _ => ?_) (fun _ => ?_) | refine z98 (fun _ => ?_) (fun _ => ?_) | refine z99 (fun _ => ?_) (fun _ => ?_) | refine z100 (fun _ => ?_) (fun _ => ?_) | refine z101 (fun _ => ?_) (fun _ => ?_) | refine z102 (fun _ => ?_) (fun _ => ?_) | refine z103 (fun _ => ?_) (fun _ => ?_)))
  · refine p_call rfl (k_NextE hnx (hp3.is2 (T := kE) (xs := acc) (by first | exact .head _ | exact .tail _ (.head _) | exact .tail _ (.tail _ (.head _)) | exact .tail _ (.tail _ (.tail _ (.head _))) | exact .tail _ (.tail _ (.tail _ (.tail _ (.head _)))) | exact .tail _ (.tail _ (.tail _ (.tail _ (.tail _ (.head _)))))) rfl) hok (by omega) hja (Hp.then hp3 (fun H4 hp4 => ?_)))
    (repeat' (first | refine z0 ?_ | refine z1 ?_ | refine z2 ?_ | refine z3 ?_ | refine z4 ?_ | refine z5 ?_ | refine z6 ?_ | refine z7 ?_ | refine z8 ?_ | refine z9 ?_ | refine z10 ?_ | refine z11 ?_ | refine z12 ?_ | refine z13 ?_ | refine z14 ?_ | refine z16 ?_ | refine z17 ?_ | refine z18 ?_ | refine z19 ?_ | refine z20 ?_ | refine z24 ?_ | refine z25 ?_ | refine z26 ?_ | refine z28 ?_ | refine z29 ?_ | refine z30 ?_ | refine z32 ?_ | refine z33 ?_ | refine z35 ?_ | refine z36 ?_ | refine z41 ?_ | refine z42 ?_ | refine z43 ?_ | refine z47 ?_ | refine z48 ?_ | refine z49 ?_ | refine z50 ?_ | refine z51 ?_ | refine z52 ?_ | refine z53 ?_ | refine z54 ?_ | refine z55 ?_ | refine z56 ?_ | refine z57 ?_ | refine z58 ?_ | refine z59 ?_ | refine z60 ?_ | refine z61 ?_ | refine z62 ?_ | refine z64 fun _ _ => ?_ | refine z65 ?_ | refine z68 ?_ | refine z76 ?_ | refine z77 ?_ | refine z78 fun _ _ _ => ?_ | refine z81 fun _ _ _ => ?_ | refine z82 fun _ _ _ => ?_ | refine z83 fun _ _ _ => ?_ | refine z84 fun _ _ => ?_ | refine z88 (r_end ?_) | refine z89 (r_end ?_) | refine z90 (r_end ?_) | refine z91 (r_end ?_) | refine z92 (r_end ?_) | refine z93 (r_end ?_) | refine z94 (r_end ?_) | refine z95 (fun _ => ?_) (fun _ => ?_) | refine z96 (fun _ => ?_) (fun _ => ?_) | refine z97 (fun _ => ?_) (fun _ => ?_) | refine z98 (fun _ => ?_) (fun _ => ?_) | refine z99 (fun _ => ?_) (fun _ => ?_) | refine z100 (fun _ => ?_) (fun _ => ?_) | refine z101 (fun _ => ?_) (fun _ => ?_) | refine z102 (fun _ => ?_) (fun _ => ?_) | refine z103 (fun _ => ?_) (fun _ => ?_)))
    · exfalso; omega
    · have hx := (by assumption : gI met (j : Int) = true)
      rw [hmj (by omega)] at hx; cases hx
    refine p_call rfl (k_PrevE hpv (hp4.is2 (T := kE) (xs := acc) (by first | exact .head _ | exact .tail _ (.head _) | exact .tail _ (.tail _ (.head _)) | exact .tail _ (.tail _ (.tail _ (.head _))) | exact .tail _ (.tail _ (.tail _ (.tail _ (.head _)))) | exact .tail _ (.tail _ (.tail _ (.tail _ (.tail _ (.head _)))))) rfl) hok (by omega) hjj (Hp.then hp4 (fun H5 hp5 => ?_)))
    have hrj := rk_lt_n o hj
    have hra' := rk_lt_n o ha
    have hstepr : m < acc.length → rk acc.length (Lk acc) j = wrp acc.length (S + (m + 1)) := fun hm1 => by
      unfold wrp at *
      split at hra <;> split <;> rcases hcase with ⟨_, h4⟩ | ⟨_, h4, h5⟩ <;> omega
    have hmet' : m < acc.length → ∀ i : Nat, i < acc.length → gI (met.set (j : Int).toNat true) (i : Int) = true → ∃ t, 1 ≤ t ∧ t ≤ m + 1 ∧ rk acc.length (Lk acc) i = wrp acc.length (S + t) := fun hm1 i hi h => by
      rw [gI_set (by omega) (by omega) (by omega)] at h
      split at h
      · rename_i e; obtain rfl : j = i := by omega
        exact ⟨m + 1, by omega, by omega, hstepr hm1⟩
      · obtain ⟨t, h1, h2, h3⟩ := hmet i hi h
        exact ⟨t, h1, by omega, h3⟩
    cases w with
    | false =>
      have hw0 : m < acc.length → (if S + m < acc.length then (0 : Int) else 1) = (if S + (m + 1) < acc.length then (0 : Int) else 1) := fun hm1 => by
        rcases hcase with ⟨_, h4⟩ | ⟨h3, _⟩
        · unfold wrp at hra; split at hra
          · rename_i h; rw [if_pos h, if_pos (by omega)]
          · rename_i h; rw [if_neg h, if_neg (by omega)]
        · cases h3
      (repeat' (first | refine z0 ?_ | refine z1 ?_ | refine z2 ?_ | refine z3 ?_ | refine z4 ?_ | refine z5 ?_ | refine z6 ?_ | refine z7 ?_ | refine z8 ?_ | refine z9 ?_ | refine z10 ?_ | refine z11 ?_ | refine z12 ?_ | refine z13 ?_ | refine z14 ?_ | refine z16 ?_ | refine z17 ?_ | refine z18 ?_ | refine z19 ?_ | refine z20 ?_ | refine z24 ?_ | refine z25 ?_ | refine z26 ?_ | refine z28 ?_ | refine z29 ?_ | refine z30 ?_ | refine z32 ?_ | refine z33 ?_ | refine z35 ?_ | refine z36 ?_ | refine z41 ?_ | refine z42 ?_ | refine z43 ?_ | refine z47 ?_ | refine z48 ?_ | refine z49 ?_ | refine z50 ?_ | refine z51 ?_ | refine z52 ?_ | refine z53 ?_ | refine z54 ?_ | refine z55 ?_ | refine z56 ?_ | refine z57 ?_ | refine z58 ?_ | refine z59 ?_ | refine z60 ?_ | refine z61 ?_ | refine z62 ?_ | refine z64 fun _ _ => ?_ | refine z65 ?_ | refine z68 ?_ | refine z76 ?_ | refine z77 ?_ | refine z78 fun _ _ _ => ?_ | refine z81 fun _ _ _ => ?_ | refine z82 fun _ _ _ => ?_ | refine z83 fun _ _ _ => ?_ | refine z84 fun _ _ => ?_ | refine z88 (r_end ?_) | refine z89 (r_end ?_) | refine z90 (r_end ?_) | refine z91 (r_end ?_) | refine z92 (r_end ?_) | refine z93 (r_end ?_) | refine z94 (r_end ?_) | refine z95 (fun _ => ?_) (fun _ => ?_) | refine z96 (fun _ => ?_) (fun _ => ?_) | refine z97 (fun _ => ?_) (fun _ => ?_) | refine z98 (fun _ => ?_) (fun _ => ?_) | refine z99 (fun _ => ?_) (fun _ => ?_) | refine z100 (fun _ => ?_) (fun _ => ?_) | refine z101 (fun _ => ?_) (fun _ => ?_) | refine z102 (fun _ => ?_) (fun _ => ?_) | refine z103 (fun _ => ?_) (fun _ => ?_)))
      · rename_i h; exact absurd rfl h
      · exact lpE rfl ⟨acc.length - (m + 1), by omega, m + 1, j, _, rfl, by rw [hw0 (by omega)], rfl, hj, by omega, hstepr (by omega), by rw [List.length_set]; exact hml, hmet' (by omega), by assumption, rfl⟩
    | true =>
      have hw1 : m < acc.length → (if S + m < acc.length then (0 : Int) else 1) + 1 = (if S + (m + 1) < acc.length then (0 : Int) else 1) := fun hm1 => by
        rcases hcase with ⟨h3, _⟩ | ⟨_, _, h4⟩
        · cases h3
        · unfold wrp at hra; split at hra
          · rename_i h; rw [if_pos h, if_neg (by omega)]; rfl
          · omega
      (repeat' (first | refine z0 ?_ | refine z1 ?_ | refine z2 ?_ | refine z3 ?_ | refine z4 ?_ | refine z5 ?_ | refine z6 ?_ | refine z7 ?_ | refine z8 ?_ | refine z9 ?_ | refine z10 ?_ | refine z11 ?_ | refine z12 ?_ | refine z13 ?_ | refine z14 ?_ | refine z16 ?_ | refine z17 ?_ | refine z18 ?_ | refine z19 ?_ | refine z20 ?_ | refine z24 ?_ | refine z25 ?_ | refine z26 ?_ | refine z28 ?_ | refine z29 ?_ | refine z30 ?_ | refine z32 ?_ | refine z33 ?_ | refine z35 ?_ | refine z36 ?_ | refine z41 ?_ | refine z42 ?_ | refine z43 ?_ | refine z47 ?_ | refine z48 ?_ | refine z49 ?_ | refine z50 ?_ | refine z51 ?_ | refine z52 ?_ | refine z53 ?_ | refine z54 ?_ | refine z55 ?_ | refine z56 ?_ | refine z57 ?_ | refine z58 ?_ | refine z59 ?_ | refine z60 ?_ | refine z61 ?_ | refine z62 ?_ | refine z64 fun _ _ => ?_ | refine z65 ?_ | refine z68 ?_ | refine z76 ?_ | refine z77 ?_ | refine z78 fun _ _ _ => ?_ | refine z81 fun _ _ _ => ?_ | refine z82 fun _ _ _ => ?_ | refine z83 fun _ _ _ => ?_ | refine z84 fun _ _ => ?_ | refine z88 (r_end ?_) | refine z89 (r_end ?_) | refine z90 (r_end ?_) | refine z91 (r_end ?_) | refine z92 (r_end ?_) | refine z93 (r_end ?_) | refine z94 (r_end ?_) | refine z95 (fun _ => ?_) (fun _ => ?_) | refine z96 (fun _ => ?_) (fun _ => ?_) | refine z97 (fun _ => ?_) (fun _ => ?_) | refine z98 (fun _ => ?_) (fun _ => ?_) | refine z99 (fun _ => ?_) (fun _ => ?_) | refine z100 (fun _ => ?_) (fun _ => ?_) | refine z101 (fun _ => ?_) (fun _ => ?_) | refine z102 (fun _ => ?_) (fun _ => ?_) | refine z103 (fun _ => ?_) (fun _ => ?_)))
      · rename_i h; exact absurd rfl h
      · exact lpE rfl ⟨acc.length - (m + 1), by omega, m + 1, j, _, rfl, by rw [hw1 (by omega)], rfl, hj, by omega, hstepr (by omega), by rw [List.length_set]; exact hml, hmet' (by omega), by assumption, rfl⟩
  obtain rfl : m = acc.length := by omega
  have hae : a = a0 := rk_inj o ha hlt0 (by rw [hra, hSS, wrp, if_neg (by omega)]; omega)
  subst hae
  rw [if_neg (show ¬ S + acc.length < acc.length by omega)]
  (repeat' (first | refine z0 ?_ | refine z1 ?_ | refine z2 ?_ | refine z3 ?_ | refine z4 ?_ | refine z5 ?_ | refine z6 ?_ | refine z7 ?_ | refine z8 ?_ | refine z9 ?_ | refine z10 ?_ | refine z11 ?_ | refine z12 ?_ | refine z13 ?_ | refine z14 ?_ | refine z16 ?_ | refine z17 ?_ | refine z18 ?_ | refine z19 ?_ | refine z20 ?_ | refine z24 ?_ | refine z25 ?_ | refine z26 ?_ | refine z28 ?_ | refine z29 ?_ | refine z30 ?_ | refine z32 ?_ | refine z33 ?_ | refine z35 ?_ | refine z36 ?_ | refine z41 ?_ | refine z42 ?_ | refine z43 ?_ | refine z47 ?_ | refine z48 ?_ | refine z49 ?_ | refine z50 ?_ | refine z51 ?_ | refine z52 ?_ | refine z53 ?_ | refine z54 ?_ | refine z55 ?_ | refine z56 ?_ | refine z57 ?_ | refine z58 ?_ | refine z59 ?_ | refine z60 ?_ | refine z61 ?_ | refine z62 ?_ | refine z64 fun _ _ => ?_ | refine z65 ?_ | refine z68 ?_ | refine z76 ?_ | refine z77 ?_ | refine z78 fun _ _ _ => ?_ | refine z81 fun _ _ _ => ?_ | refine z82 fun _ _ _ => ?_ | refine z83 fun _ _ _ => ?_ | refine z84 fun _ _ => ?_ | refine z88 (r_end ?_) | refine z89 (r_end ?_) | refine z90 (r_end ?_) | refine z91 (r_end ?_) | refine z92 (r_end ?_) | refine z93 (r_end ?_) | refine z94 (r_end ?_) | refine p_cvIw rfl (wrap64 (by omega) (by omega)) ?_ | refine z95 (fun _ => ?_) (fun _ => ?_) | refine z96 (fun _ => ?_) (fun _ => ?_) | refine z97 (fun _ => ?_) (fun _ => ?_) | refine z98 (fun _ => ?_) (fun _ => ?_) | refine z99 (fun _ => ?_) (fun _ => ?_) | refine z100 (fun _ => ?_) (fun _ => ?_) | refine z101 (fun _ => ?_) (fun _ => ?_) | refine z102 (fun _ => ?_) (fun _ => ?_) | refine z103 (fun _ => ?_) (fun _ => ?_)))
  all_goals first
    | exact k _ hp3.fr
    | (exfalso; rename_i h; exact h ha0.symm)
end Go.Proofs.Ytlfihcndchjgcaa
