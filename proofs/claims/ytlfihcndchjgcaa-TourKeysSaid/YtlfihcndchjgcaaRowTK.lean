/- Own text of this session: RowTK. -/
import Derived.Test.YtlfihcndchjgcaaRows
import Derived.Test.YtlfihcndchjgcaaTourB
import Derived.Test.YtlfihcndchjgcaaAbC
import Derived.WalkKit
import Derived.ProofKit
import Derived.OpenShut
import Derived.ShutString
import Derived.ChangeOld
import Derived.Below
import Derived.SizedLaws
set_option linter.unusedVariables false
set_option linter.unusedSimpArgs false
namespace Go.Proofs.Ytlfihcndchjgcaa
open Go Go.ChangeShapes Go.WideShapes Go.ChangeAt Go.RowKit Go.Ab
theorem own : ownKnob Try.prog.godebug = none := by kernel_rfl
theorem laidOut : laidOutB Try.prog = true := by kernel_rfl
/-- What is known of the types. -/
structure TypesOk (P : Program) : Prop where
  u3 : P.underlying 3 = some (.int .i64)
  u41 : P.underlying 41 = some (.slice 3)
  u22 : P.underlying 22 = some (.slice 56)
  u23 : P.underlying 23 = some (.slice 50)
  u24 : P.underlying 24 = some (.array 2 3)
  u56 : P.underlying 56 = some (.struct #[{ name := "From", type := 3, offset := 0, embedded := false, tag := "", pkgPath := "", byteOffset := 0 }, { name := "To", type := 3, offset := 1, embedded := false, tag := "", pkgPath := "", byteOffset := 8 }, { name := "Seen", type := 41, offset := 2, embedded := false, tag := "", pkgPath := "", byteOffset := 16 }])
  u50 : P.underlying 50 = some (.struct #[{ name := "From", type := 3, offset := 0, embedded := false, tag := "", pkgPath := "", byteOffset := 0 }, { name := "To", type := 3, offset := 1, embedded := false, tag := "", pkgPath := "", byteOffset := 8 }])
  c1 : P.cellsOf 3 = 1
  c41 : P.cellsOf 41 = 1
  c56 : P.cellsOf 56 = 3
  c50 : P.cellsOf 50 = 2
  c24 : P.cellsOf 24 = 2
  b3 : P.bytesOf 3 = 8
  b56 : P.bytesOf 56 = 40
theorem typesOk : TypesOk Try.prog := ⟨Try.underlying3, Try.underlying41, Try.underlying22, Try.underlying23, Try.underlying24, Try.underlying56, Try.underlying50, by kernel_rfl, by kernel_rfl, by kernel_rfl, by kernel_rfl, by kernel_rfl, by kernel_rfl, by kernel_rfl⟩
section
variable {P : Program} (ok : TypesOk P)
include ok
theorem rd_seen {H : Heap} {n : Nat} {cs : List Value} (h : RdA P H (n + 2) 41 cs) : ∃ v xs, cs = [v] ∧ IsS intE H v xs ∧ xs.length * 8 ≤ reachBytes := by
  obtain ⟨v, xs, h1, h2, h3, _⟩ := rdC_slice (T := intE) (ok := fun _ => True) ok.u41 ok.c1 (by decide) (fun cs h => by
    obtain ⟨x, h1, _⟩ := rdC_int ok.u3 h; exact ⟨x, h1, trivial⟩) h
  exact ⟨v, xs, h1, h2, by rw [ok.b3] at h3; exact h3⟩
theorem rd_row {H : Heap} {n : Nat} {cs : List Value} (h : RdA P H (n + 3) 56 cs) : ∃ r : RowL, cs = rowE.enc r ∧ ∃ xs, IsS intE H r.seen xs ∧ xs.length * 8 ≤ reachBytes := by
  obtain ⟨hl, hf⟩ := rdC_struct ok.u56 h
  rw [ok.c56] at hl
  obtain ⟨a, b, c, rfl⟩ : ∃ a b c, cs = [a, b, c] := by
    match cs, hl with
    | [a, b, c], _ => exact ⟨a, b, c, rfl⟩
  have h1 := hf _ (.head _)
  have h2 := hf _ (.tail _ (.head _))
  have h3 := hf _ (.tail _ (.tail _ (.head _)))
  simp only [ok.c1] at h1 h2
  simp only [ok.c41] at h3
  obtain ⟨x, e1, _⟩ := rdC_int ok.u3 h1
  obtain ⟨y, e2, _⟩ := rdC_int ok.u3 h2
  obtain ⟨v, xs, e3, e4⟩ := rd_seen ok h3
  simp at e1 e2 e3
  subst e1; subst e2; subst e3
  exact ⟨⟨x, y, c⟩, rfl, xs, e4⟩
theorem rd_span {H : Heap} {n : Nat} {cs : List Value} (h : RdA P H (n + 2) 50 cs) : ∃ r : Spn, cs = spnE.enc r ∧ True := by
  obtain ⟨hl, hf⟩ := rdC_struct ok.u50 h
  rw [ok.c50] at hl
  obtain ⟨a, b, rfl⟩ : ∃ a b, cs = [a, b] := by
    match cs, hl with
    | [a, b], _ => exact ⟨a, b, rfl⟩
  have h1 := hf _ (.head _)
  have h2 := hf _ (.tail _ (.head _))
  simp only [ok.c1] at h1 h2
  obtain ⟨x, e1, _⟩ := rdC_int ok.u3 h1
  obtain ⟨y, e2, _⟩ := rdC_int ok.u3 h2
  simp at e1 e2
  subst e1; subst e2
  exact ⟨⟨x, y⟩, rfl, trivial⟩
omit ok in
theorem rows_choose {H : Heap} : ∀ rs : List RowL, (∀ r ∈ rs, ∃ xs, IsS intE H r.seen xs ∧ xs.length * 8 ≤ reachBytes) → ∃ ss : List (List Int), rs.length = ss.length ∧ (∀ i : Nat, IsS intE H (rs.getD i default).seen (ss.getD i default)) ∧ ∀ s ∈ ss, s.length * 8 ≤ reachBytes
  | [], _ => ⟨[], rfl, fun i => .isNil, by simp⟩
  | r :: rs, h => by
    obtain ⟨xs, h1, h2⟩ := h r (.head _)
    obtain ⟨ss, g1, g2, g3⟩ := rows_choose rs (fun r hr => h r (.tail _ hr))
    refine ⟨xs :: ss, by simp [g1], fun i => ?_, ?_⟩
    · cases i with
      | zero => exact h1
      | succ i => exact g2 i
    · intro s hs
      rcases List.mem_cons.1 hs with rfl | hs
      · exact h2
      · exact g3 s hs
theorem rd_rows {H : Heap} {n : Nat} {v : Value} (h : RdA P H (n + 4) 22 (cellsV v)) (hv : ShV P 22 v) : ∃ rs ss, RowsOk H v rs ss ∧ ss.length ≤ 140737488355328 ∧ ∀ i : Int, (gI ss i).length ≤ 140737488355328 := by
  obtain ⟨rs, h1, h2, h3⟩ := rd_slice (T := rowE) ok.u22 ok.c56 (by decide) (fun cs h => rd_row ok h) h hv
  obtain ⟨ss, g1, g2, g3⟩ := rows_choose rs h3
  rw [ok.b56] at h2
  have hrb : reachBytes ≤ 140737488355328 := by decide
  refine ⟨rs, ss, ⟨h1, g1, fun i => g2 _⟩, by omega, fun i => ?_⟩
  by_cases hi : i.toNat < ss.length
  · have hm : gI ss i ∈ ss := by
      simp only [gI, List.getD_eq_getElem?_getD, List.getElem?_eq_getElem hi]; exact List.getElem_mem _
    have := g3 _ hm; omega
  · have : gI ss i = [] := by simp only [gI, List.getD_eq_getElem?_getD, List.getElem?_eq_none (by omega : ss.length ≤ i.toNat)]; rfl
    rw [this]; simp
theorem rd_spans {H : Heap} {n : Nat} {v : Value} (h : RdA P H (n + 3) 23 (cellsV v)) (hv : ShV P 23 v) : ∃ sp, IsS spnE H v sp := by
  obtain ⟨sp, h1, _, _⟩ := rd_slice (T := spnE) ok.u23 ok.c50 (by decide) (fun cs h => rd_span ok h) h hv
  exact ⟨sp, h1⟩
theorem rd_two {H : Heap} {n : Nat} {v : Value} (h : RdA P H (n + 2) 24 (cellsV v)) (hv : ShV P 24 v) : ∃ a b, v = .agg #[.int .i64 a, .int .i64 b] := by
  unfold ShV at hv; rw [ok.u24] at hv
  obtain ⟨l, rfl⟩ := hv
  obtain ⟨hl, hf⟩ := rdC_array ok.u24 h
  rw [ok.c24] at hl
  have hl : l.length = 2 := hl
  obtain ⟨a, b, rfl⟩ : ∃ a b, l = [a, b] := by
    match l, hl with
    | [a, b], _ => exact ⟨a, b, rfl⟩
  have h1 := hf 0 (by decide)
  have h2 := hf 1 (by decide)
  simp only [ok.c1] at h1 h2
  obtain ⟨x, e1, _⟩ := rdC_int ok.u3 h1
  obtain ⟨y, e2, _⟩ := rdC_int ok.u3 h2
  simp [cellsV, Value.cells] at e1 e2
  subst e1; subst e2
  exact ⟨x, y, rfl⟩
theorem walk_gen {f : FuncId} {X : Type} {enc : TypeId × Value → X} {W : World} {base : Nat} {args : Array Value} {ds : List (DataW X)} {ps : List MemPlace} (hs : ([22, 23, 24] : List TypeId).all (supp P 4) = true)
    (law : ∀ H v u rs ss sp a b, RowsOk H v rs ss → ss.length ≤ 140737488355328 → (∀ i : Int, (gI ss i).length ≤ 140737488355328) → IsS spnE H u sp → ACall P f [v, u, .agg #[.int .i64 a, .int .i64 b]] H (fun en _ => en = .ret (.bool true)))
    (hval : ∀ (j : Nat) (t : TypeId) v, ([22, 23, 24] : List TypeId)[j]? = some t → args[j]? = some v → Value.okWide P W .any base t v)
    (hwt : ∀ z ∈ DataW.weightsEach P [22, 23, 24] ds, z ≤ reachBytes) (hA : DataW.TrodAll enc P W 0 (fun _ => true) true [22, 23, 24] args.toList ds ps) : Calls P f args W fun e w' => e = .returned (.bool true) ∧ RowKit.Below W.heap.size W w' := by
  refine law_calls (n := 4) (G := fun g => none) (fun g cs hg => by cases hg) hs hval hwt hA (fun H vas hfr hrd => ?_)
  obtain ⟨v0, vs0, rfl, r0, s0, hrd⟩ := hrd.cons
  obtain ⟨v1, vs1, rfl, r1, s1, hrd⟩ := hrd.cons
  obtain ⟨v2, vs2, rfl, r2, s2, hrd⟩ := hrd.cons
  obtain rfl := hrd.nil
  obtain ⟨rs, ss, hr, hn, hn2⟩ := rd_rows (n := 0) ok r0 s0
  obtain ⟨sp, hsp⟩ := rd_spans (n := 1) ok r1 s1
  obtain ⟨a, b, rfl⟩ := rd_two (n := 2) ok r2 s2
  exact law _ _ _ _ _ _ _ _ hr hn hn2 hsp
end
theorem walk_keys {X : Type} {enc : TypeId × Value → X} {W : World} {base : Nat} {args : Array Value} {ds : List (DataW X)} {ps : List MemPlace} (hval : ∀ (j : Nat) (t : TypeId) v, ([22, 23, 24] : List TypeId)[j]? = some t → args[j]? = some v → Value.okWide Try.prog W .any base t v)
    (hwt : ∀ z ∈ DataW.weightsEach Try.prog [22, 23, 24] ds, z ≤ reachBytes) (hA : DataW.TrodAll enc Try.prog W 0 (fun _ => true) true [22, 23, 24] args.toList ds ps) : Calls Try.prog 3 args W fun e w' => e = .returned (.bool true) ∧ RowKit.Below W.heap.size W w' := by
  have hs : ([22, 23, 24] : List TypeId).all (supp Try.prog 4) = true := by kernel_rfl
  have law : ∀ H v u rs ss sp a b, RowsOk H v rs ss → ss.length ≤ 140737488355328 → (∀ i : Int, (gI ss i).length ≤ 140737488355328) → IsS spnE H u sp → ACall Try.prog 3 [v, u, .agg #[.int .i64 a, .int .i64 b]] H (fun en _ => en = .ret (.bool true)) := by
    intro H v u rs ss sp a b hr hn hn2 hsp
    exact (k_law25_TourKeys (N := fun v _ => v = .bool true) (X := fun _ _ => False) hr hn hn2 hsp (fun H' _ => rfl)).mono (fun en H' h => by
      cases en with
      | ret v => exact congrArg AEnd.ret h
      | panic v => exact h.elim)
  with_reducible exact walk_gen typesOk hs law hval hwt hA
set_option maxRecDepth 100000 in
theorem lifted (os : Os) (started : os.Started) (H : Type) (enc : TypeId × Value → H) :
    ReturnsInHanded {} Try.checked os 3 .any (Rows.tourKeysSpec.pre6 enc Try.prog Try.f3 Rows.tourKeysRow.domain false) (Rows.tourKeysSpec.post enc Try.prog Try.f3 false true false false) := by
  refine returnsInHanded_of_change_sized (C := Try.checked) own started (by kernel_rfl) Try.func3
    (ChangeSpec.witness6 (enc := enc) (C := Try.checked) false ⟨#[], #[.slice none 0 0, .slice none 0 0, .agg #[.int .i64 0, .int .i64 0]], []⟩ 8 (by kernel_rfl) (by kernel_rfl) (by kernel_rfl) (by kernel_rfl)) ?_
  intro W base args ds gs before hval0 hW hcnd hsz0 _
  have hW' := hW
  obtain ⟨p, q, hA0, hV, rfl, hfz, hnd⟩ := hW
  have hA : DataW.TrodAll enc Try.prog W 0 (fun _ => true) true Try.f3.params.toList args.toList ds p := hA0
  rw [Try.params3] at hA hval0
  have hA : DataW.TrodAll enc Try.prog W 0 (fun _ => true) true [22, 23, 24] args.toList ds p := hA
  obtain ⟨v0, vs0, d0, ds0, p0, q0, hargs, rfl, rfl, h0, r0⟩ := trodAll_cons hA
  obtain ⟨v1, vs1, d1, ds1, p1, q1, rfl, rfl, rfl, h1, r1⟩ := trodAll_cons r0
  obtain ⟨v2, vs2, d2, ds2, p2, q2, rfl, rfl, rfl, h2, r2⟩ := trodAll_cons r1
  obtain ⟨rfl, rfl, rfl⟩ := trodAll_nil r2
  obtain ⟨rfl, rfl⟩ := trodVars_none hV
  refine (walk_keys (fun j t v ht hv => hval0 j t v (by simpa using ht) hv) (fun z hz => of_decide_eq_true (List.all_eq_true.1 hsz0 z (by rw [List.append_nil]; exact hz))) hA).mono fun e W' ⟨he, bel⟩ => ?_
  subst he
  exact ⟨_, rfl, _, _, _, [], _, [], hW', trodAll_mk1 (shut_bool Try.underlying4 _), below_trodAll laidOut bel (by kernel_rfl) hA, rfl, bel.frame _, fun h => by cases h⟩
theorem tourKeys_row : Rows.TourKeysSaid :=
  OpenClaim.holds_of_wide 3 Try.f3 rfl rfl rfl rfl rfl rfl rfl ⟨rfl, rfl, rfl, rfl, rfl⟩ rfl rfl rfl rfl rfl (by kernel_rfl) Try.func3 (by kernel_rfl)
    (of_decide_eq_true (by kernel_rfl)) (by unfold Func.isWrapper; first | (rw [if_pos (by decide +kernel)]; kernel_rfl) | (rw [if_neg (by decide +kernel)]; exact ⟨rfl, rfl⟩))
    (fun os started H enc _ => lifted os started H enc)
#print axioms tourKeys_row
end Go.Proofs.Ytlfihcndchjgcaa
