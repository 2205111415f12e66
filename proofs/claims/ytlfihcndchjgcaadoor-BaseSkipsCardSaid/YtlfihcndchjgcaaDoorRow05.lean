/- Own text of this session: Row05. -/
import Derived.Test.YtlfihcndchjgcaaDoorRows
import Derived.Test.YtlfihcndchjgcaaDoorCards
import Derived.Test.YtlfihcndchjgcaaDoorTie
import Derived.Test.YtlfihcndchjgcaaDoorLaw05
import Derived.Test.YtlfihcndchjgcaaDoorAbC
import Derived.WalkKit
import Derived.ProofKit
import Derived.OpenShut
import Derived.ShutString
import Derived.ChangeOld
import Derived.Below
import Derived.SizedLaws
import Derived.LaidMore
import Derived.MakeChecks
import Derived.Stop.Joined
import Derived.SevenTiedAt
set_option linter.unusedVariables false
set_option linter.unusedSimpArgs false
namespace Go.Proofs.YtlfihcndchjgcaaDoor
open Go.ChangeShapes Go.WideShapes Go.ChangeAt Go.RowKit Go.Ab
theorem own : ownKnob Tryd.prog.godebug = none := by kernel_rfl
theorem laidOut : laidOutB Tryd.prog = true := by kernel_rfl
theorem gWords : Tryd.prog.globalNamed "ductus/class.words" = some 0 := by kernel_rfl
theorem tWords : (Tryd.prog.globals[0]?).map (·.type) = some 36 := by kernel_rfl
abbrev laidL : List (String × DataW Unit) := [("ductus/class.words", Rows.laid_ductus_class_words)]
theorem door_met (os : Os) (args : Array Value) : laidMetH Tryd.prog laidL ((World.doorLaid Tryd.prog 400 os).forCall (fun _ _ => 0) ⟨#[], args, []⟩).memory :=
  laidMetH_of_parts3 (fuel := 8) (laidMet_of_run' 8 (by kernel_rfl) (by kernel_rfl)) (by kernel_rfl) (by kernel_rfl)
/-- What the condition gives: the table's cells. -/
theorem of_laid {W : World} (h : laidMetH Tryd.prog laidL W) : ∃ c e fr, W.heap[0]? = some (.cells c e fr) ∧ c.size = 23 ∧ ∀ i : Nat, i < 23 → ∃ s : ByteArray, c[i]? = some (.string s) ∧ s.data.toList ≠ [] := by
  rw [MakeChecks.laidMetH_plain _ _ _ (by kernel_rfl)] at h
  obtain ⟨ps, ⟨g0, t0, cs0, f0, p0, q0, hg0, ht0, hv0, hd0, _, _⟩, _, _⟩ := h
  obtain rfl := Option.some.inj (gWords.symm.trans hg0)
  obtain rfl := Option.some.inj (tWords.symm.trans ht0)
  obtain ⟨xs, m, rfl, hx1, hlen, hn, hel⟩ := DataW.trod_array (Tryd.underlying36) hd0
  simp only [Prod.mk.injEq] at hx1
  have c9 : Tryd.prog.cellsOf 9 = 1 := by kernel_rfl
  have c36 : Tryd.prog.cellsOf 36 = 23 := by kernel_rfl
  rw [c36] at hlen
  rw [c9] at hel
  have hb : ∃ e fr, W.heap[0]? = some (.cells cs0 e fr) := by
    simp only [World.var?, gWords, Option.bind_some] at hv0
    split at hv0
    · rename_i cs e fr hh
      obtain rfl := Option.some.inj hv0
      exact ⟨e, fr, hh⟩
    · cases hv0
  obtain ⟨e, fr, hb⟩ := hb
  refine ⟨cs0, e, fr, hb, by simpa using hlen, fun i hi => ?_⟩
  have h1 := hel i hi
  rw [List.getElem?_eq_getElem (by omega)] at h1
  obtain ⟨s, g1, g2, _⟩ := DataW.trod_string Tryd.underlying9 h1
  refine ⟨s, ?_, ?_⟩
  · have := congrArg (fun l => l[0]?) g1
    simpa [List.getElem?_take, List.getElem?_drop] using this
  · have h2 : (xs.map (·.1))[i]? = some (.lit (.string s.data.toList)) := by
      rw [List.getElem?_map, List.getElem?_eq_getElem (by omega), g2]; rfl
    rw [show xs.map (·.1) = [.lit (.string [76]), .lit (.string [82]), .lit (.string [65, 76]), .lit (.string [69, 78]), .lit (.string [69, 83]), .lit (.string [69, 84]), .lit (.string [65, 78]), .lit (.string [67, 83]), .lit (.string [78, 83, 77]), .lit (.string [66, 78]), .lit (.string [66]), .lit (.string [83]), .lit (.string [87, 83]), .lit (.string [79, 78]), .lit (.string [76, 82, 69]), .lit (.string [76, 82, 79]), .lit (.string [82, 76, 69]), .lit (.string [82, 76, 79]), .lit (.string [80, 68, 70]), .lit (.string [76, 82, 73]), .lit (.string [82, 76, 73]), .lit (.string [70, 83, 73]), .lit (.string [80, 68, 73])] from by
      have := hx1.1; simp only [Rows.laid_ductus_class_words, DataW.agg.injEq] at this; exact this.symm] at h2
    intro h0
    rw [h0] at h2
    have := List.mem_of_getElem? h2
    simp at this
theorem walk_skips {X : Type} {enc : TypeId × Value → X} {W : World} {base : Nat} {args : Array Value} {ds : List (DataW X)} {ps : List MemPlace} (hL : laidMetH Tryd.prog laidL W) (hval : ∀ (j : Nat) t v, [22, 22, 3][j]? = some t → args[j]? = some v → Value.okWide Tryd.prog W .any base t v)
    (hA : DataW.TrodAll enc Tryd.prog W 0 (fun _ => true) true [22, 22, 3] args.toList ds ps) : Calls Tryd.prog 3 args W fun e w' => e = .returned (.bool true) ∧ RowKit.Below W.heap.size W w' := by
  obtain ⟨c, e, fr, h1, h2, h3⟩ := of_laid hL
  have nG : Tryd.prog.globals.size = 1 := by kernel_rfl
  refine law_calls (n := 3) (G := fun g => if g = 0 then some c.toList else none) (fun g cs hg => ?_) (by kernel_rfl) hval hA (fun H vas hfr hrd => ?_)
  · split at hg
    · rename_i h0; subst h0
      cases hg
      refine ⟨c, e, fr, h1, fun j v hj => ⟨by simpa using hj, ?_⟩⟩
      have hjl : j < 23 := by have := (List.getElem?_eq_some_iff.1 hj).1; simp at this; omega
      obtain ⟨s, g1, _⟩ := h3 j hjl
      have : v = .string s := by
        have : c[j]? = some v := by simpa using hj
        rw [g1] at this; exact (Option.some.inj this).symm
      subst this; rfl
    · cases hg
  · obtain ⟨v0, vs0, rfl, r0, s0, hrd⟩ := hrd.cons
    obtain ⟨v1, vs1, rfl, r1, s1, hrd⟩ := hrd.cons
    obtain ⟨v2, vs2, rfl, r2, s2, hrd⟩ := hrd.cons
    obtain rfl := hrd.nil
    obtain ⟨l, hl, ll, _⟩ := rd_ints Tryd.underlying22 Tryd.underlying3 (by kernel_rfl) r0 s0
    obtain ⟨w, hw, lw, _⟩ := rd_ints Tryd.underlying22 Tryd.underlying3 (by kernel_rfl) r1 s1
    obtain ⟨d, rfl, _⟩ := rd_int Tryd.underlying3 r2 s2
    have hwd : Wd H := by
      have h0 : H.get 0 = some ⟨c.toList, false, none⟩ := by
        rw [hfr.get 0 (by show 0 < Tryd.prog.globals.size; rw [nG]; decide)]
        simp only [heap0, if_true]; rw [if_pos (by rw [nG]; decide)]; rfl
      refine ⟨⟨_, h0, by simpa using h2, fun i hi => ?_⟩, Nat.lt_of_lt_of_le (by show 0 < Tryd.prog.globals.size; rw [nG]; decide) hfr.next⟩
      obtain ⟨s, g1, g2⟩ := h3 i hi
      exact ⟨s, by simpa using g1, by rw [baList]; exact g2⟩
    exact (k_law05_BaseSkips (N := fun v _ => v = .bool true) (X := fun _ _ => False) hl hw hwd (fun H' _ => rfl)).mono (fun en H' h => by
      cases en with
      | ret v => exact congrArg AEnd.ret h
      | panic v => exact h.elim)
set_option maxRecDepth 100000 in
theorem lifted (os : Os) (started : os.Started) (H : Type) (enc : TypeId × Value → H) :
    ReturnsInHanded {} Tryd.checked os 3 .any (fun w args => (Rows.baseSkipsSpec.pre enc Tryd.prog Tryd.f3 [] false w args ∧ laidMetH Tryd.prog laidL w) ∧ sizedMet enc Tryd.prog Tryd.f3 (OpenSpec.ofChange Rows.baseSkipsSpec) false w args)
      (Rows.baseSkipsSpec.post enc Tryd.prog Tryd.f3 false true false false) := by
  refine returnsInHanded_of_change_and (C := Tryd.checked) (X := fun w _ => laidMetH Tryd.prog laidL w) (fun _ _ _ hh h => h.of_heap hh) own started (by kernel_rfl) Tryd.func3
    (ChangeSpec.witness_shaped (enc := enc) (C := Tryd.checked) (os := os) (X := fun w _ => laidMetH Tryd.prog laidL w) false (World.doorLaid Tryd.prog 400 os) #[.slice none 0 0, .slice none 0 0, .int .i64 0] 8 rfl (World.shaped_of_RefB (by kernel_rfl) (by kernel_rfl)) (by kernel_rfl) (by kernel_rfl) (by kernel_rfl) (door_met os _)) ?_
  intro W base args ds gs before hval0 hW _ _ hL _
  have hW' := hW
  obtain ⟨p, q, hA0, hV, rfl, hfz, hnd⟩ := hW
  have hA : DataW.TrodAll enc Tryd.prog W 0 (fun _ => true) true Tryd.f3.params.toList args.toList ds p := hA0
  rw [Tryd.params3] at hA hval0
  have hA : DataW.TrodAll enc Tryd.prog W 0 (fun _ => true) true [22, 22, 3] args.toList ds p := hA
  obtain ⟨v0, vs0, d0, ds0, p0, q0, hargs, rfl, rfl, h0, r0⟩ := trodAll_cons hA
  obtain ⟨v1, vs1, d1, ds1, p1, q1, rfl, rfl, rfl, h1, r1⟩ := trodAll_cons r0
  obtain ⟨v2, vs2, d2, ds2, p2, q2, rfl, rfl, rfl, h2, r2⟩ := trodAll_cons r1
  obtain ⟨rfl, rfl, rfl⟩ := trodAll_nil r2
  obtain ⟨rfl, rfl⟩ := trodVars_none hV
  refine (walk_skips hL (fun j t v ht hv => hval0 j t v (by simpa using ht) hv) hA).mono fun e W' ⟨he, bel⟩ => ?_
  subst he
  exact ⟨_, rfl, _, _, _, [], _, [], hW', trodAll_mk1 (shut_bool Tryd.underlying4 _), below_trodAll laidOut bel (by kernel_rfl) hA, rfl, bel.frame _, fun h => by cases h⟩
theorem baseSkips_row : Rows.BaseSkipsSaid :=
  OpenClaim.holds_of_wide 3 Tryd.f3 rfl rfl rfl rfl rfl rfl rfl ⟨rfl, rfl, rfl, rfl, rfl⟩ rfl rfl rfl rfl rfl (by kernel_rfl) Tryd.func3 (by kernel_rfl)
    (of_decide_eq_true (by kernel_rfl)) (by unfold Func.isWrapper; first | (rw [if_pos (by decide +kernel)]; kernel_rfl) | (rw [if_neg (by decide +kernel)]; exact ⟨rfl, rfl⟩))
    (fun os started H enc _ => lifted os started H enc)
theorem baseSkips_card : Rows.BaseSkipsCardSaid :=
  Claim7.holds_tied_plain_at .later [] [.data] true (true, "22d51a72bb26dc9777cc6207516299d192d132937a86241962795f2473dd2d06") false
    baseSkips_row (fun _ h => by cases h) (by kernel_rfl) (fun _ h => by cases h) baseSkips_row_tie rfl ⟨rfl, rfl⟩ (by kernel_rfl) rfl
    (fun f fn hf hfn => by
      obtain rfl : f = 3 := Option.some.inj ((show Tryd.prog.funcNamed "ductus/ductuslaw05.BaseSkips" = some 3 by kernel_rfl).symm.trans hf) |>.symm
      obtain rfl : fn = Tryd.f3 := (Option.some.inj (Tryd.func3.symm.trans hfn)).symm
      exact ⟨by kernel_rfl, fun j t ht => by
        rw [Tryd.params3] at ht
        have hm : t ∈ [22, 22, 3] := by simpa using Array.mem_of_getElem? ht
        have hall : ([22, 22, 3].all fun u => !Tryd.prog.wantsStandIn u) = true := by kernel_rfl
        exact (show Tryd.prog.wantsStandIn t = false by simpa using List.all_eq_true.1 hall t hm)⟩)
    (by kernel_rfl)
#print axioms baseSkips_card
end Go.Proofs.YtlfihcndchjgcaaDoor
