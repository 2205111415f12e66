/- Own text of this session: RowTR. -/
import Derived.Test.YtlfihcndchjgcaaRows
import Derived.Test.YtlfihcndchjgcaaTourE
import Derived.Test.YtlfihcndchjgcaaAbD
import Derived.WalkKit
import Derived.ProofKit
import Derived.OpenShut
import Derived.ShutString
import Derived.ChangeOld
import Derived.Below
import Derived.SizedLaws
set_option linter.unusedVariables false
set_option linter.unusedSimpArgs false
namespace Go.Proofs.Ytlfihcndchjgcaa
open Go Go.ChangeShapes Go.WideShapes Go.ChangeAt Go.RowKit Go.Ab
theorem own : ownKnob Try.prog.godebug = none := by kernel_rfl
theorem laidOut : laidOutB Try.prog = true := by kernel_rfl
/-- What is known of the types. -/
structure TypesOk (P : Program) : Prop where
  u33 : P.underlying 33 = some (.slice 36)
  u36 : P.underlying 36 = some (.array 2 35)
  u35 : P.underlying 35 = some (.int .u16)
  u5 : P.underlying 5 = some (.int .u8)
  c35 : P.cellsOf 35 = 1
  c36 : P.cellsOf 36 = 2
  b36 : P.bytesOf 36 = 4
theorem typesOk : TypesOk Try.prog := ⟨Try.underlying33, Try.underlying36, Try.underlying35, Try.underlying5, by kernel_rfl, by kernel_rfl, by kernel_rfl⟩
section
variable {P : Program} (ok : TypesOk P)
include ok
theorem rd_pair {H : Heap} {n : Nat} {cs : List Value} (h : RdA P H (n + 2) 36 cs) : ∃ c : K2, cs = uE.enc c ∧ c.1 ≤ 65535 ∧ c.2 ≤ 65535 := by
  obtain ⟨hl, hf⟩ := rdC_array ok.u36 h
  rw [ok.c36] at hl
  obtain ⟨a, b, rfl⟩ : ∃ a b, cs = [a, b] := by
    match cs, hl with
    | [a, b], _ => exact ⟨a, b, rfl⟩
  have h1 := hf 0 (by decide)
  have h2 := hf 1 (by decide)
  simp only [ok.c35] at h1 h2
  obtain ⟨x, e1, m1, m2⟩ := rdC_int ok.u35 h1
  obtain ⟨y, e2, m3, m4⟩ := rdC_int ok.u35 h2
  have z0 : IntKind.min .u16 = 0 := by decide
  have z1 : IntKind.max .u16 = 65535 := by decide
  rw [z0] at m1 m3; rw [z1] at m2 m4
  simp at e1 e2
  subst e1; subst e2
  refine ⟨(x.toNat, y.toNat), ?_, ?_, ?_⟩
  · show _ = [Value.int .u16 (x.toNat : Int), Value.int .u16 (y.toNat : Int)]
    rw [Int.toNat_of_nonneg m1, Int.toNat_of_nonneg m3]
  · show x.toNat ≤ 65535; omega
  · show y.toNat ≤ 65535; omega
theorem rd_pairs {H : Heap} {n : Nat} {v : Value} (h : RdA P H (n + 3) 33 (cellsV v)) (hv : ShV P 33 v) : ∃ l, IsS uE H v l ∧ l.length ≤ 140737488355328 ∧ ∀ c ∈ l, c.1 ≤ 65535 ∧ c.2 ≤ 65535 := by
  obtain ⟨l, h1, h2, h3⟩ := rd_slice (T := uE) ok.u33 ok.c36 (by decide) (fun cs h => rd_pair ok h) h hv
  rw [ok.b36] at h2
  have hrb : reachBytes ≤ 140737488355328 := by decide
  exact ⟨l, h1, by omega, h3⟩
theorem rd_u8 {H : Heap} {n : Nat} {v : Value} (h : RdA P H (n + 1) 5 (cellsV v)) (hv : ShV P 5 v) : ∃ x, v = .int .u8 x ∧ 0 ≤ x ∧ x ≤ 255 := by
  obtain ⟨x, h1, h2, h3⟩ := rd_int ok.u5 h hv
  have z0 : IntKind.min .u8 = 0 := by decide
  have z1 : IntKind.max .u8 = 255 := by decide
  exact ⟨x, h1, by omega, by omega⟩
theorem walk_gen {f : FuncId} {X : Type} {enc : TypeId × Value → X} {W : World} {base : Nat} {args : Array Value} {ds : List (DataW X)} {ps : List MemPlace} (hs : ([33, 5] : List TypeId).all (supp P 3) = true)
    (law : ∀ H v l x, IsS uE H v l → l.length ≤ 140737488355328 → (∀ c ∈ l, c.1 ≤ 65535 ∧ c.2 ≤ 65535) → 0 ≤ x → x ≤ 255 → ACall P f [v, .int .u8 x] H (fun en _ => en = .ret (.bool true)))
    (hval : ∀ (j : Nat) (t : TypeId) v, ([33, 5] : List TypeId)[j]? = some t → args[j]? = some v → Value.okWide P W .any base t v)
    (hwt : ∀ z ∈ DataW.weightsEach P [33, 5] ds, z ≤ reachBytes) (hA : DataW.TrodAll enc P W 0 (fun _ => true) true [33, 5] args.toList ds ps) : Calls P f args W fun e w' => e = .returned (.bool true) ∧ RowKit.Below W.heap.size W w' := by
  refine law_calls (n := 3) (G := fun g => none) (fun g cs hg => by cases hg) hs hval hwt hA (fun H vas hfr hrd => ?_)
  obtain ⟨v0, vs0, rfl, r0, s0, hrd⟩ := hrd.cons
  obtain ⟨v1, vs1, rfl, r1, s1, hrd⟩ := hrd.cons
  obtain rfl := hrd.nil
  obtain ⟨l, hl, hn, hm⟩ := rd_pairs (n := 0) ok r0 s0
  obtain ⟨x, rfl, x0, x1⟩ := rd_u8 (n := 2) ok r1 s1
  exact law _ _ _ _ hl hn hm x0 x1
end
theorem walk_round {X : Type} {enc : TypeId × Value → X} {W : World} {base : Nat} {args : Array Value} {ds : List (DataW X)} {ps : List MemPlace} (hval : ∀ (j : Nat) (t : TypeId) v, ([33, 5] : List TypeId)[j]? = some t → args[j]? = some v → Value.okWide Try.prog W .any base t v)
    (hwt : ∀ z ∈ DataW.weightsEach Try.prog [33, 5] ds, z ≤ reachBytes) (hA : DataW.TrodAll enc Try.prog W 0 (fun _ => true) true [33, 5] args.toList ds ps) : Calls Try.prog 4 args W fun e w' => e = .returned (.bool true) ∧ RowKit.Below W.heap.size W w' := by
  have hs : ([33, 5] : List TypeId).all (supp Try.prog 3) = true := by kernel_rfl
  have law : ∀ H v l x, IsS uE H v l → l.length ≤ 140737488355328 → (∀ c ∈ l, c.1 ≤ 65535 ∧ c.2 ≤ 65535) → 0 ≤ x → x ≤ 255 → ACall Try.prog 4 [v, .int .u8 x] H (fun en _ => en = .ret (.bool true)) := by
    intro H v l x hl hn hm x0 x1
    exact (k_law25_TourRound (N := fun v _ => v = .bool true) (X := fun _ _ => False) hl hm x0 x1 hn (fun H' _ => rfl)).mono (fun en H' h => by
      cases en with
      | ret v => exact congrArg AEnd.ret h
      | panic v => exact h.elim)
  with_reducible exact walk_gen typesOk hs law hval hwt hA
set_option maxRecDepth 100000 in
theorem lifted (os : Os) (started : os.Started) (H : Type) (enc : TypeId × Value → H) :
    ReturnsInHanded {} Try.checked os 4 .any (Rows.tourRoundSpec.pre6 enc Try.prog Try.f4 Rows.tourRoundRow.domain false) (Rows.tourRoundSpec.post enc Try.prog Try.f4 false true false false) := by
  refine returnsInHanded_of_change_sized (C := Try.checked) own started (by kernel_rfl) Try.func4
    (ChangeSpec.witness6 (enc := enc) (C := Try.checked) false ⟨#[], #[.slice none 0 0, .int .u8 0], []⟩ 8 (by kernel_rfl) (by kernel_rfl) (by kernel_rfl) (by kernel_rfl)) ?_
  intro W base args ds gs before hval0 hW hcnd hsz0 _
  have hW' := hW
  obtain ⟨p, q, hA0, hV, rfl, hfz, hnd⟩ := hW
  have hA : DataW.TrodAll enc Try.prog W 0 (fun _ => true) true Try.f4.params.toList args.toList ds p := hA0
  rw [Try.params4] at hA hval0
  have hA : DataW.TrodAll enc Try.prog W 0 (fun _ => true) true [33, 5] args.toList ds p := hA
  obtain ⟨v0, vs0, d0, ds0, p0, q0, hargs, rfl, rfl, h0, r0⟩ := trodAll_cons hA
  obtain ⟨v1, vs1, d1, ds1, p1, q1, rfl, rfl, rfl, h1, r1⟩ := trodAll_cons r0
  obtain ⟨rfl, rfl, rfl⟩ := trodAll_nil r1
  obtain ⟨rfl, rfl⟩ := trodVars_none hV
  refine (walk_round (fun j t v ht hv => hval0 j t v (by simpa using ht) hv) (fun z hz => of_decide_eq_true (List.all_eq_true.1 hsz0 z (by rw [List.append_nil]; exact hz))) hA).mono fun e W' ⟨he, bel⟩ => ?_
  subst he
  exact ⟨_, rfl, _, _, _, [], _, [], hW', trodAll_mk1 (shut_bool Try.underlying4 _), below_trodAll laidOut bel (by kernel_rfl) hA, rfl, bel.frame _, fun h => by cases h⟩
theorem tourRound_row : Rows.TourRoundSaid :=
  OpenClaim.holds_of_wide 4 Try.f4 rfl rfl rfl rfl rfl rfl rfl ⟨rfl, rfl, rfl, rfl, rfl⟩ rfl rfl rfl rfl rfl (by kernel_rfl) Try.func4 (by kernel_rfl)
    (of_decide_eq_true (by kernel_rfl)) (by unfold Func.isWrapper; first | (rw [if_pos (by decide +kernel)]; kernel_rfl) | (rw [if_neg (by decide +kernel)]; exact ⟨rfl, rfl⟩))
    (fun os started H enc _ => lifted os started H enc)
#print axioms tourRound_row
end Go.Proofs.Ytlfihcndchjgcaa
