/- Own text of this session: TourB. -/
import Derived.Test.YtlfihcndchjgcaaTourA
import Derived.Test.YtlfihcndchjgcaaAbD
set_option linter.unusedVariables false
set_option linter.unusedSimpArgs false
namespace Go.Proofs.Ytlfihcndchjgcaa
open Go Go.Ab
theorem k_law25_alive {H : Heap} {N X : Value → Heap → Prop} (k : N (.bool true) H) : ACall Try.prog 6 [] H (EndK N X) :=
  ACall_run allCodes_good (.bool true) 300 rfl rfl (by kernel_rfl) k
/-- A word that is no NaN. -/
def realW (w : Nat) : Prop := Ieee.double.order w w = some .eq
theorem order_self (d : Ieee.Datum) (h : d.isNaN = false) : d.order d = some .eq := by
  cases d with
  | number s m p => simp [Ieee.Datum.order]
  | infinity s => simp [Ieee.Datum.order]
  | nan s f => simp [Ieee.Datum.isNaN] at h
theorem real_word (neg : Bool) (r : Nat) (h : r ≤ Ieee.double.infRung) : realW (Ieee.double.word neg r) := by
  have h1 : Ieee.double.infRung = 9218868437227405312 := by decide
  have h2 : Ieee.double.signWeight = 9223372036854775808 := by decide
  have hm : Ieee.double.word neg r % Ieee.double.signWeight = r := by
    rw [h2]; unfold Ieee.Format.word; rw [h2]
    split <;> omega
  refine order_self _ ?_
  unfold Ieee.Format.read
  simp only [hm]
  split
  · rfl
  · split
    · rfl
    · split
      · rfl
      · omega
theorem real_fl (n : Int) : realW (fl n) := by
  show realW (Ieee.double.nearest _ _ _)
  unfold Ieee.Format.nearest
  split
  · exact real_word _ _ (by decide)
  · exact real_word _ _ (Nat.min_le_right _ _)
theorem eqC {a b : Nat} (ha : realW a) (hb : realW b) : binA .neq (.complex .f64 a b) (.complex .f64 a b) = some (.bool false) := by
  have h1 : FloatKind.f64.format.order a a = some .eq := ha
  have h2 : FloatKind.f64.format.order b b = some .eq := hb
  simp only [binA, fltA, Op.complexOp, Op.Complex.cmp, Op.floatCmp, h1, h2]
  rfl
theorem eqlC {a b : Nat} (ha : realW a) (hb : realW b) : binA .eql (.complex .f64 a b) (.complex .f64 a b) = some (.bool true) := by
  have h1 : FloatKind.f64.format.order a a = some .eq := ha
  have h2 : FloatKind.f64.format.order b b = some .eq := hb
  simp only [binA, fltA, Op.complexOp, Op.Complex.cmp, Op.floatCmp, h1, h2]
  rfl
theorem real_noKey : realW noKey.1 ∧ realW noKey.2 := by unfold realW; exact ⟨by kernel_rfl, by kernel_rfl⟩
theorem real_key (ss : List (List Int)) (b p : Int) : realW (keyS ss b p).1 ∧ realW (keyS ss b p).2 := by
  have h0 := real_noKey
  simp only [keyS]
  split
  · exact h0
  · split
    · split
      · exact h0
      · exact ⟨real_fl _, real_fl _⟩
    · split
      · exact h0
      · exact ⟨real_fl _, real_fl _⟩
theorem real_span (ss : List (List Int)) (b : Int) (s : Spn) : realW (spanKey ss b s).1 ∧ realW (spanKey ss b s).2 := by
  simp only [spanKey]
  split
  · exact real_key _ _ _
  · exact real_noKey
theorem k_r25_Same {v u : Value} {xs : List (Nat × Nat)} {H : Heap} {N X : Value → Heap → Prop} (h1 : IsS cxE H v xs) (h2 : IsS cxE H u xs) (hw : ∀ x ∈ xs, realW x.1 ∧ realW x.2) (hn : xs.length ≤ 1000000) (k : N (.bool true) H) :
    ACall Try.prog 8 [v, u] H (EndK N X) := by
  refine call_r25_Same (fun e => ?_)
  have hp0 := Hp.refl H
  have hl1 := h1.len
  have hl2 := h2.len
  (repeat' (first | refine z0 ?_ | refine z1 ?_ | refine z2 ?_ | refine z3 ?_ | refine z4 ?_ | refine z5 ?_ | refine z6 ?_ | refine z7 ?_ | refine z8 ?_ | refine z9 ?_ | refine z10 ?_ | refine z11 ?_ | refine z12 ?_ | refine z13 ?_ | refine z14 ?_ | refine z16 ?_ | refine z17 ?_ | refine z26 ?_ | refine z29 ?_ | refine z30 ?_ | refine z48 ?_ | refine z49 ?_ | refine z50 ?_ | refine z51 ?_ | refine z52 ?_ | refine z53 ?_ | refine z54 ?_ | refine z55 ?_ | refine z56 ?_ | refine z57 ?_ | refine z58 ?_ | refine z59 ?_ | refine z60 ?_ | refine z61 ?_ | refine z62 ?_ | refine z65 ?_ | refine z88 (r_end ?_) | refine z89 (r_end ?_) | refine z90 (r_end ?_) | refine z91 (r_end ?_) | refine z92 (r_end ?_) | refine z93 (r_end ?_) | refine z94 (r_end ?_) | refine z95 (fun _ => ?_) (fun _ => ?_) | refine z96 (fun _ => ?_) (fun _ => ?_) | refine z97 (fun _ => ?_) (fun _ => ?_)))
  · rename_i h; exact absurd rfl h
  refine lp1 5 [0, 1] (fun v5 H' n => ∃ (i : Nat), v5 = .int .i64 i ∧ i ≤ xs.length ∧ H = H' ∧ n = xs.length - i) rfl rfl rfl _ ⟨0, rfl, by omega, rfl, rfl⟩ ?_
  rintro _ _ n e' ⟨i, rfl, hi, rfl, rfl⟩
  have hq : i < xs.length → binA .neq (.complex .f64 (gI xs i).1 (gI xs i).2) (.complex .f64 (gI xs i).1 (gI xs i).2) = some (.bool false) := fun h => eqC (hw _ (gI_mem (by omega) (by omega))).1 (hw _ (gI_mem (by omega) (by omega))).2
  (repeat' (first | refine z0 ?_ | refine z1 ?_ | refine z2 ?_ | refine z3 ?_ | refine z4 ?_ | refine z5 ?_ | refine z6 ?_ | refine z7 ?_ | refine z8 ?_ | refine z9 ?_ | refine z10 ?_ | refine z11 ?_ | refine z12 ?_ | refine z13 ?_ | refine z14 ?_ | refine z16 ?_ | refine z17 ?_ | refine z26 ?_ | refine z29 ?_ | refine z30 ?_ | refine z48 ?_ | refine z49 ?_ | refine z50 ?_ | refine z51 ?_ | refine z52 ?_ | refine z53 ?_ | refine z54 ?_ | refine z55 ?_ | refine z56 ?_ | refine z57 ?_ | refine z58 ?_ | refine z59 ?_ | refine z60 ?_ | refine z61 ?_ | refine z62 ?_ | refine z65 ?_ | refine z88 (r_end ?_) | refine z89 (r_end ?_) | refine z90 (r_end ?_) | refine z91 (r_end ?_) | refine z92 (r_end ?_) | refine z93 (r_end ?_) | refine z94 (r_end ?_) | refine p_bin rfl rfl (hq (by omega)) ?_ | refine z95 (fun _ => ?_) (fun _ => ?_) | refine z96 (fun _ => ?_) (fun _ => ?_) | refine z97 (fun _ => ?_) (fun _ => ?_)))
  · exact lpE rfl ⟨xs.length - (i + 1), by omega, i + 1, rfl, by omega, rfl, rfl⟩
  · exact k
theorem k_law25_TourKeys {v u : Value} {rs : List RowL} {ss : List (List Int)} {sp : List Spn} {a b : Int} {H : Heap} {N X : Value → Heap → Prop} (hr : RowsOk H v rs ss) (hn : ss.length ≤ 140737488355328) (hn2 : ∀ i : Int, (gI ss i).length ≤ 140737488355328)
    (hu : IsS spnE H u sp) (k : ∀ H', Fr H H' → N (.bool true) H') : ACall Try.prog 3 [v, u, .agg #[.int .i64 a, .int .i64 b]] H (EndK N X) := by
  refine call_law25_TourKeys (fun e => ?_)
  have hp0 := Hp.refl H
  have hlu := hu.len
  (repeat' (first | refine z0 ?_ | refine z1 ?_ | refine z2 ?_ | refine z3 ?_ | refine z4 ?_ | refine z6 ?_ | refine z11 ?_ | refine z12 ?_ | refine z16 ?_ | refine z17 ?_ | refine z18 ?_ | refine z19 ?_ | refine z20 ?_ | refine z24 ?_ | refine z25 ?_ | refine z28 ?_ | refine z32 ?_ | refine z36 ?_ | refine z41 ?_ | refine z43 ?_ | refine z50 ?_ | refine z51 ?_ | refine z52 ?_ | refine z53 ?_ | refine z54 ?_ | refine z55 ?_ | refine z56 ?_ | refine z57 ?_ | refine z58 ?_ | refine z59 ?_ | refine z60 ?_ | refine z61 ?_ | refine z62 ?_ | refine z65 ?_ | refine z80 fun _ _ _ => ?_ | refine z88 (r_end ?_) | refine z89 (r_end ?_) | refine z90 (r_end ?_) | refine z91 (r_end ?_) | refine z92 (r_end ?_) | refine z93 (r_end ?_) | refine z94 (r_end ?_) | refine p_call rfl (k_law25_alive ?_) | refine z95 (fun _ => ?_) (fun _ => ?_) | refine z96 (fun _ => ?_) (fun _ => ?_) | refine z97 (fun _ => ?_) (fun _ => ?_) | refine z98 (fun _ => ?_) (fun _ => ?_) | refine z99 (fun _ => ?_) (fun _ => ?_) | refine z100 (fun _ => ?_) (fun _ => ?_) | refine z101 (fun _ => ?_) (fun _ => ?_) | refine z102 (fun _ => ?_) (fun _ => ?_) | refine z103 (fun _ => ?_) (fun _ => ?_)))
  rename_i bb H1 hp1
  have hr1 := hr.fr hp1.fr
  have hu1 := hu.fr hp1.fr
  refine p_call rfl (k_r24_Great hr1 hn hn2 (fun g hg => ?_))
  (repeat' (first | refine z0 ?_ | refine z1 ?_ | refine z2 ?_ | refine z3 ?_ | refine z4 ?_ | refine z6 ?_ | refine z11 ?_ | refine z12 ?_ | refine z16 ?_ | refine z17 ?_ | refine z18 ?_ | refine z19 ?_ | refine z20 ?_ | refine z24 ?_ | refine z25 ?_ | refine z28 ?_ | refine z32 ?_ | refine z36 ?_ | refine z41 ?_ | refine z43 ?_ | refine z50 ?_ | refine z51 ?_ | refine z52 ?_ | refine z53 ?_ | refine z54 ?_ | refine z55 ?_ | refine z56 ?_ | refine z57 ?_ | refine z58 ?_ | refine z59 ?_ | refine z60 ?_ | refine z61 ?_ | refine z62 ?_ | refine z65 ?_ | refine z80 fun _ _ _ => ?_ | refine z88 (r_end ?_) | refine z89 (r_end ?_) | refine z90 (r_end ?_) | refine z91 (r_end ?_) | refine z92 (r_end ?_) | refine z93 (r_end ?_) | refine z94 (r_end ?_) | refine p_iaA rfl rfl (by rfl) ?_ | refine z95 (fun _ => ?_) (fun _ => ?_) | refine z96 (fun _ => ?_) (fun _ => ?_) | refine z97 (fun _ => ?_) (fun _ => ?_) | refine z98 (fun _ => ?_) (fun _ => ?_) | refine z99 (fun _ => ?_) (fun _ => ?_) | refine z100 (fun _ => ?_) (fun _ => ?_) | refine z101 (fun _ => ?_) (fun _ => ?_) | refine z102 (fun _ => ?_) (fun _ => ?_) | refine z103 (fun _ => ?_) (fun _ => ?_)))
  · exact k _ hp1.fr
  · exact k _ hp1.fr
  obtain ⟨g1, g2, g3⟩ := hg (by assumption)
  have hsm : Small ss := ⟨by omega, fun s hs => by have := g2 s hs; omega⟩
  have hsp : sp.length ≤ 60 := by have h := (by assumption : ¬ (60 : Int) < sp.length); omega
  refine p_callK rfl rfl (k_tour_Keys hr1 hsm (by omega) hu1 (by omega) (Hp.then1 hp1 (fun v2 H2 hp2 => ⟨chk_cons rfl rfl (Hp.ldB hp2 (by first | exact .head _ | exact .tail _ (.head _) | exact .tail _ (.tail _ (.head _)) | exact .tail _ (.tail _ (.tail _ (.head _))) | exact .tail _ (.tail _ (.tail _ (.tail _ (.head _)))) | exact .tail _ (.tail _ (.tail _ (.tail _ (.tail _ (.head _)))))) rfl) chk_nil, ?_⟩)))
  have hr2 := hr.fr hp2.fr
  have hu2 := hu.fr hp2.fr
  refine p_call rfl (k_r25_Keys hr2 hsm hu2 (by omega) (Hp.then1 hp2 (fun v3 H3 hp3 => ?_)))
  refine p_call rfl (k_r25_Same (Hp.is2 (T := cxE) (xs := sp.map (spanKey ss a)) hp3 (by first | exact .head _ | exact .tail _ (.head _) | exact .tail _ (.tail _ (.head _)) | exact .tail _ (.tail _ (.tail _ (.head _))) | exact .tail _ (.tail _ (.tail _ (.tail _ (.head _)))) | exact .tail _ (.tail _ (.tail _ (.tail _ (.tail _ (.head _)))))) rfl) (Hp.is2 (T := cxE) (xs := sp.map (spanKey ss a)) hp3 (by first | exact .head _ | exact .tail _ (.head _) | exact .tail _ (.tail _ (.head _)) | exact .tail _ (.tail _ (.tail _ (.head _))) | exact .tail _ (.tail _ (.tail _ (.tail _ (.head _)))) | exact .tail _ (.tail _ (.tail _ (.tail _ (.tail _ (.head _)))))) rfl) ?_ (by simp; omega) ?_)
  · intro x hx
    obtain ⟨s, _, rfl⟩ := List.mem_map.1 hx
    exact real_span _ _ _
  have hr3 := hr.fr hp3.fr
  (repeat' (first | refine z0 ?_ | refine z1 ?_ | refine z2 ?_ | refine z3 ?_ | refine z4 ?_ | refine z6 ?_ | refine z11 ?_ | refine z12 ?_ | refine z16 ?_ | refine z17 ?_ | refine z18 ?_ | refine z19 ?_ | refine z20 ?_ | refine z24 ?_ | refine z25 ?_ | refine z28 ?_ | refine z32 ?_ | refine z36 ?_ | refine z41 ?_ | refine z43 ?_ | refine z50 ?_ | refine z51 ?_ | refine z52 ?_ | refine z53 ?_ | refine z54 ?_ | refine z55 ?_ | refine z56 ?_ | refine z57 ?_ | refine z58 ?_ | refine z59 ?_ | refine z60 ?_ | refine z61 ?_ | refine z62 ?_ | refine z65 ?_ | refine z80 fun _ _ _ => ?_ | refine z88 (r_end ?_) | refine z89 (r_end ?_) | refine z90 (r_end ?_) | refine z91 (r_end ?_) | refine z92 (r_end ?_) | refine z93 (r_end ?_) | refine z94 (r_end ?_) | refine p_iaA rfl rfl (by rfl) ?_ | refine z95 (fun _ => ?_) (fun _ => ?_) | refine z96 (fun _ => ?_) (fun _ => ?_) | refine z97 (fun _ => ?_) (fun _ => ?_) | refine z98 (fun _ => ?_) (fun _ => ?_) | refine z99 (fun _ => ?_) (fun _ => ?_) | refine z100 (fun _ => ?_) (fun _ => ?_) | refine z101 (fun _ => ?_) (fun _ => ?_) | refine z102 (fun _ => ?_) (fun _ => ?_) | refine z103 (fun _ => ?_) (fun _ => ?_)))
  refine p_callK rfl rfl (k_tour_Key hr3 hsm (Hp.then hp3 (fun H4 hp4 => ⟨chk_cons rfl rfl (Hp.ldB hp4 (by first | exact .head _ | exact .tail _ (.head _) | exact .tail _ (.tail _ (.head _)) | exact .tail _ (.tail _ (.tail _ (.head _))) | exact .tail _ (.tail _ (.tail _ (.tail _ (.head _)))) | exact .tail _ (.tail _ (.tail _ (.tail _ (.tail _ (.head _)))))) rfl) (chk_cons rfl rfl (Hp.ldB hp4 (by first | exact .head _ | exact .tail _ (.head _) | exact .tail _ (.tail _ (.head _)) | exact .tail _ (.tail _ (.tail _ (.head _))) | exact .tail _ (.tail _ (.tail _ (.tail _ (.head _)))) | exact .tail _ (.tail _ (.tail _ (.tail _ (.tail _ (.head _)))))) rfl) chk_nil), ?_⟩)))
  have hr4 := hr.fr hp4.fr
  (repeat' (first | refine z0 ?_ | refine z1 ?_ | refine z2 ?_ | refine z3 ?_ | refine z4 ?_ | refine z6 ?_ | refine z11 ?_ | refine z12 ?_ | refine z16 ?_ | refine z17 ?_ | refine z18 ?_ | refine z19 ?_ | refine z20 ?_ | refine z24 ?_ | refine z25 ?_ | refine z28 ?_ | refine z32 ?_ | refine z36 ?_ | refine z41 ?_ | refine z43 ?_ | refine z50 ?_ | refine z51 ?_ | refine z52 ?_ | refine z53 ?_ | refine z54 ?_ | refine z55 ?_ | refine z56 ?_ | refine z57 ?_ | refine z58 ?_ | refine z59 ?_ | refine z60 ?_ | refine z61 ?_ | refine z62 ?_ | refine z65 ?_ | refine z80 fun _ _ _ => ?_ | refine z88 (r_end ?_) | refine z89 (r_end ?_) | refine z90 (r_end ?_) | refine z91 (r_end ?_) | refine z92 (r_end ?_) | refine z93 (r_end ?_) | refine z94 (r_end ?_) | refine p_call rfl (k_r25_Key hr4 hsm ?_) | refine p_bin rfl rfl (eqlC (real_key ss a b).1 (real_key ss a b).2) ?_ | refine z95 (fun _ => ?_) (fun _ => ?_) | refine z96 (fun _ => ?_) (fun _ => ?_) | refine z97 (fun _ => ?_) (fun _ => ?_) | refine z98 (fun _ => ?_) (fun _ => ?_) | refine z99 (fun _ => ?_) (fun _ => ?_) | refine z100 (fun _ => ?_) (fun _ => ?_) | refine z101 (fun _ => ?_) (fun _ => ?_) | refine z102 (fun _ => ?_) (fun _ => ?_) | refine z103 (fun _ => ?_) (fun _ => ?_)))
  exact k _ hp4.fr
end Go.Proofs.Ytlfihcndchjgcaa
