/- Own text of this session: Code. -/
import Derived.Test.YtlfihcndchjgcaaAbD
import Derived.Test.YtlfihcndchjgcaaProg
import Derived.KernelRfl
set_option linter.unusedVariables false
set_option linter.unusedSimpArgs false
namespace Go.Proofs.Ytlfihcndchjgcaa
open Go Go.Ab
/-! ductus/ductuslaw25.TourKeys -/
def c_law25_TourKeys__0 : ACode := .reg [A 6 (.mv (cb false))]
  .ret
def c_law25_TourKeys__1 : ACode := .reg [A 6 (.mv (cb true))]
  .ret
def c_law25_TourKeys__2 : ACode := .reg [A 16 (.mv (t 0)), A 17 (.iaA 2 1 (t 5) (ci 0)), A 18 (.ld none (t 17)), A 19 (.mv (t 1)), A 21 (.mv (t 0)), A 22 (.iaA 2 1 (t 5) (ci 0)), A 23 (.ld none (t 22)), A 24 (.mv (t 1)), { d := some 20, g := none, op := (.call 9 [t 16, t 18, t 19]), k := [{ n := none, a := t 22, g := none, d := 23 }] }, A 25 (.call 10 [t 21, t 23, t 24]), A 26 (.call 8 [t 20, t 25]), A 27 (.mv (t 26)), G 28 27 true (.mv (t 0)), G 29 27 true (.iaA 2 1 (t 5) (ci 0)), G 30 27 true (.ld none (t 29)), G 31 27 true (.iaA 2 1 (t 5) (ci 1)), G 32 27 true (.ld none (t 31)), G 34 27 true (.mv (t 0)), G 35 27 true (.iaA 2 1 (t 5) (ci 0)), G 36 27 true (.ld none (t 35)), G 37 27 true (.iaA 2 1 (t 5) (ci 1)), G 38 27 true (.ld none (t 37)), { d := some 33, g := some (27, true), op := (.call 11 [t 28, t 30, t 32]), k := [{ n := none, a := t 35, g := some (27, true), d := 36 }, { n := none, a := t 37, g := some (27, true), d := 38 }] }, G 39 27 true (.call 12 [t 34, t 36, t 38]), G 40 27 true (.bin .eql (t 33) (t 39)), A 41 (.pick (t 27) (t 40) (cb false)), A 6 (.mv (t 41))]
  .ret
def c_law25_TourKeys__3 : ACode := .reg [A 9 (.mv (t 0)), A 10 (.call 7 [t 9]), A 11 (.mv (t 10)), G 12 11 false (.mv (t 1)), G 13 11 false (.len (t 12)), G 14 11 false (.bin .gtr (t 13) (ci 60)), A 15 (.pick (t 11) (cb true) (t 14))]
  (.cond (t 15) c_law25_TourKeys__1 .nil c_law25_TourKeys__2)
def c_law25_TourKeys : ACode := .reg [A 5 (.bx (t 2)), A 6 (.mv (cb false))]
  (.reg [A 7 (.call 6 []), A 8 (.un .not (t 7))]
  (.cond (t 8) c_law25_TourKeys__0 .nil c_law25_TourKeys__3))
theorem code_law25_TourKeys : CodeIs Try.prog 3 3 c_law25_TourKeys [ARes.tmp 6] :=
  ⟨fun args H Q hl h => ACall_of Try.func3 rfl (by kernel_rfl) (by rw [hl]; exact Nat.le_of_ble_eq_true rfl) (by kernel_rfl) (by kernel_rfl) h⟩
theorem call_law25_TourKeys {a0 a1 a2 : Value} {H : Heap} {Q : AEnd → Heap → Prop} (h : ∀ e, Wk Try.prog c_law25_TourKeys (funP [ARes.tmp 6] Q) e [(0, a0), (1, a1), (2, a2)] H) : ACall Try.prog 3 [a0, a1, a2] H Q := code_law25_TourKeys.all _ _ _ rfl (wk_entry rfl h)
/-! ductus/ductuslaw25.TourRound -/
def c_law25_TourRound__0 : ACode := .reg [A 4 (.mv (cb false))]
  .ret
def c_law25_TourRound__1 : ACode := .reg [A 4 (.mv (cb true))]
  .ret
def c_law25_TourRound__2 : ACode := .reg [A 50 (.mv (t 8)), A 51 (.mv (t 50)), G 52 51 false (.mv (t 5)), G 53 51 false (.mv (t 9)), G 54 51 false (.ia 1 (t 52) (t 53)), G 55 51 false (.ld none (t 54)), G 56 51 false (.mv (t 7)), G 57 51 false (.bin .eql (t 55) (t 56)), A 58 (.pick (t 51) (cb true) (t 57)), A 8 (.mv (t 58))]
  .nil
def c_law25_TourRound__3 : ACode := .reg [A 48 (.mv (t 9)), A 49 (.bin .add (t 48) (ci 1)), A 9 (.mv (t 49))]
  .nil
def c_law25_TourRound__4 : ACode := .block 3 c_law25_TourRound__2 c_law25_TourRound__3
def c_law25_TourRound__5 : ACode := .reg [A 44 (.mv (t 9)), A 45 (.mv (t 5)), A 46 (.len (t 45)), A 47 (.bin .lss (t 44) (t 46))]
  (.cond (t 47) .nil (.exit 2) c_law25_TourRound__4)
-- loop c_law25_TourRound__5: carried [8, 9] keep [0, 1, 5, 6, 7]
def c_law25_TourRound__6 : ACode := .loop c_law25_TourRound__5
def c_law25_TourRound__7 : ACode := .reg [A 61 (.mv (t 5)), A 62 (.mv (t 7)), A 63 (.bs 1 1 [Value.complex .f64 0 0] [(0, 1, t 62)]), A 64 (.app 1 16 [Value.complex .f64 0 0] (t 61) (t 63)), A 5 (.mv (t 64))]
  .nil
def c_law25_TourRound__8 : ACode := .reg [A 59 (.mv (t 8)), A 60 (.un .not (t 59))]
  (.cond (t 60) c_law25_TourRound__7 .nil .nil)
def c_law25_TourRound__9 : ACode := .reg [A 31 (.mv (t 0)), A 32 (.mv (t 6)), A 33 (.ia 2 (t 31) (t 32)), A 34 (.iaA 2 1 (t 33) (ci 0)), A 35 (.ld none (t 34)), A 36 (.cvF .f64 (t 35)), A 37 (.mv (t 0)), A 38 (.mv (t 6)), A 39 (.ia 2 (t 37) (t 38)), A 40 (.iaA 2 1 (t 39) (ci 1)), A 41 (.ld none (t 40)), A 42 (.cvF .f64 (t 41)), A 43 (.cx (t 36) (t 42)), A 7 (.mv (t 43))]
  (.reg [A 8 (.mv (cb false))]
  (.reg [A 9 (.mv (ci 0))]
  (.block 2 c_law25_TourRound__6 c_law25_TourRound__8)))
def c_law25_TourRound__10 : ACode := .reg [A 29 (.mv (t 6)), A 30 (.bin .add (t 29) (ci 1)), A 6 (.mv (t 30))]
  .nil
def c_law25_TourRound__11 : ACode := .block 1 c_law25_TourRound__9 c_law25_TourRound__10
def c_law25_TourRound__12 : ACode := .reg [A 25 (.mv (t 6)), A 26 (.mv (t 0)), A 27 (.len (t 26)), A 28 (.bin .lss (t 25) (t 27))]
  (.cond (t 28) .nil (.exit 0) c_law25_TourRound__11)
-- loop c_law25_TourRound__12: carried [5, 6] keep [0, 1]
def c_law25_TourRound__13 : ACode := .loop c_law25_TourRound__12
def c_law25_TourRound__14 : ACode := .reg [A 69 (.mv (t 5)), A 70 (.call 13 [t 69, Operand.const (Value.complex .f64 0 0)]), A 68 (.mv (t 70)), A 71 (.ext (t 68) 0), A 72 (.ext (t 68) 1), A 10 (.mv (t 71)), A 11 (.mv (t 72))]
  (.reg [A 73 (.mv (t 10)), A 74 (.bin .eql (t 73) (ci (-1))), A 75 (.mv (t 74)), G 76 75 true (.mv (t 11)), G 77 75 true (.un .not (t 76)), A 78 (.pick (t 75) (t 77) (cb false)), A 4 (.mv (t 78))]
  .ret)
def c_law25_TourRound__15 : ACode := .reg [A 4 (.mv (cb false))]
  .ret
def c_law25_TourRound__16 : ACode := .reg [A 4 (.mv (cb false))]
  .ret
def c_law25_TourRound__17 : ACode := .reg [A 134 (.mv (t 14)), A 135 (.bin .add (t 134) (ci 1)), A 14 (.mv (t 135))]
  .nil
def c_law25_TourRound__18 : ACode := .reg [A 136 (.mv (t 13)), A 137 (.mv (t 16)), A 138 (.mv (t 16)), A 139 (.ia 1 (t 136) (t 137)), S (.st 1 (t 139) (cb true)), A 12 (.mv (t 138))]
  .nil
def c_law25_TourRound__19 : ACode := .reg [A 133 (.mv (t 17))]
  (.cond (t 133) c_law25_TourRound__17 .nil c_law25_TourRound__18)
def c_law25_TourRound__20 : ACode := .reg [A 117 (.mv (t 5)), A 118 (.mv (t 5)), A 119 (.mv (t 16)), A 120 (.ia 1 (t 118) (t 119)), A 121 (.ld none (t 120)), A 122 (.call 14 [t 117, t 121]), A 116 (.mv (t 122)), A 123 (.ext (t 116) 0), A 124 (.ext (t 116) 1), A 18 (.mv (t 123)), A 19 (.mv (t 124))]
  (.reg [A 125 (.mv (t 18)), A 126 (.mv (t 12)), A 127 (.bin .neq (t 125) (t 126)), A 128 (.mv (t 127)), G 129 128 false (.mv (t 19)), G 130 128 false (.mv (t 17)), G 131 128 false (.eqB true (t 129) (t 130)), A 132 (.pick (t 128) (cb true) (t 131))]
  (.cond (t 132) c_law25_TourRound__16 .nil c_law25_TourRound__19))
def c_law25_TourRound__21 : ACode := .reg [A 94 (.mv (t 5)), A 95 (.mv (t 5)), A 96 (.mv (t 12)), A 97 (.ia 1 (t 95) (t 96)), A 98 (.ld none (t 97)), A 99 (.call 13 [t 94, t 98]), A 93 (.mv (t 99)), A 100 (.ext (t 93) 0), A 101 (.ext (t 93) 1), A 16 (.mv (t 100)), A 17 (.mv (t 101))]
  (.reg [A 102 (.mv (t 16)), A 103 (.bin .lss (t 102) (ci 0)), A 104 (.mv (t 103)), G 105 104 false (.mv (t 16)), G 106 104 false (.mv (t 5)), G 107 104 false (.len (t 106)), G 108 104 false (.bin .geq (t 105) (t 107)), A 109 (.pick (t 104) (cb true) (t 108)), A 110 (.mv (t 109)), G 111 110 false (.mv (t 13)), G 112 110 false (.mv (t 16)), G 113 110 false (.ia 1 (t 111) (t 112)), G 114 110 false (.ld none (t 113)), A 115 (.pick (t 110) (cb true) (t 114))]
  (.cond (t 115) c_law25_TourRound__15 .nil c_law25_TourRound__20))
def c_law25_TourRound__22 : ACode := .reg [A 91 (.mv (t 15)), A 92 (.bin .add (t 91) (ci 1)), A 15 (.mv (t 92))]
  .nil
def c_law25_TourRound__23 : ACode := .block 5 c_law25_TourRound__21 c_law25_TourRound__22
def c_law25_TourRound__24 : ACode := .reg [A 87 (.mv (t 15)), A 88 (.mv (t 5)), A 89 (.len (t 88)), A 90 (.bin .lss (t 87) (t 89))]
  (.cond (t 90) .nil (.exit 4) c_law25_TourRound__23)
-- loop c_law25_TourRound__24: carried [12, 14, 15] keep [1, 5, 13]
def c_law25_TourRound__25 : ACode := .loop c_law25_TourRound__24
def c_law25_TourRound__26 : ACode := .reg [A 140 (.mv (t 12)), A 141 (.mv (t 1)), A 142 (.cvI .i64 (t 141)), A 143 (.mv (t 5)), A 144 (.len (t 143)), A 145 (.bin .rem (t 142) (t 144)), A 146 (.bin .eql (t 140) (t 145)), A 147 (.mv (t 146)), G 148 147 true (.mv (t 14)), G 149 147 true (.bin .eql (t 148) (ci 1)), A 150 (.pick (t 147) (t 149) (cb false)), A 4 (.mv (t 150))]
  .ret
def c_law25_TourRound__27 : ACode := .reg [A 79 (.mv (t 1)), A 80 (.cvI .i64 (t 79)), A 81 (.mv (t 5)), A 82 (.len (t 81)), A 83 (.bin .rem (t 80) (t 82)), A 12 (.mv (t 83))]
  (.reg [A 84 (.mv (t 5)), A 85 (.len (t 84)), A 86 (.ms 1 1 [Value.bool false] (t 85) (t 85)), A 13 (.mv (t 86))]
  (.reg [A 14 (.mv (ci 0))]
  (.reg [A 15 (.mv (ci 0))]
  (.block 4 c_law25_TourRound__25 c_law25_TourRound__26))))
def c_law25_TourRound__28 : ACode := .reg [A 65 (.mv (t 5)), A 66 (.len (t 65)), A 67 (.bin .eql (t 66) (ci 0))]
  (.cond (t 67) c_law25_TourRound__14 .nil c_law25_TourRound__27)
def c_law25_TourRound__29 : ACode := .reg [A 5 (.mv (Operand.const (Value.slice none 0 0)))]
  (.reg [A 6 (.mv (ci 0))]
  (.block 0 c_law25_TourRound__13 c_law25_TourRound__28))
def c_law25_TourRound__30 : ACode := .reg [A 22 (.mv (t 0)), A 23 (.len (t 22)), A 24 (.bin .gtr (t 23) (ci 60))]
  (.cond (t 24) c_law25_TourRound__1 .nil c_law25_TourRound__29)
def c_law25_TourRound : ACode := .reg [A 4 (.mv (cb false))]
  (.reg [A 20 (.call 6 []), A 21 (.un .not (t 20))]
  (.cond (t 21) c_law25_TourRound__0 .nil c_law25_TourRound__30))
theorem code_law25_TourRound : CodeIs Try.prog 4 2 c_law25_TourRound [ARes.tmp 4] :=
  ⟨fun args H Q hl h => ACall_of Try.func4 rfl (by kernel_rfl) (by rw [hl]; exact Nat.le_of_ble_eq_true rfl) (by kernel_rfl) (by kernel_rfl) h⟩
theorem call_law25_TourRound {a0 a1 : Value} {H : Heap} {Q : AEnd → Heap → Prop} (h : ∀ e, Wk Try.prog c_law25_TourRound (funP [ARes.tmp 4] Q) e [(0, a0), (1, a1)] H) : ACall Try.prog 4 [a0, a1] H Q := code_law25_TourRound.all _ _ _ rfl (wk_entry rfl h)
/-! ductus/ductuslaw25.alive -/
def c_law25_alive__0 : ACode := .reg [G 72 67 true (.call 9 [t 68, ci 0, t 71]), G 73 67 true (.bs 2 1 [Value.complex .f64 0 0] [(0, 1, Operand.const (Value.complex .f64 0 4607182418800017408)), (1, 1, Operand.const (Value.complex .f64 13830554455654793216 0))]), G 74 67 true (.call 8 [t 72, t 73]), A 75 (.pick (t 67) (t 74) (cb false)), A 76 (.mv (t 75)), G 77 76 true (.mv (t 1)), G 78 76 true (.ia 1 (t 77) (ci 1)), G 79 76 true (.ld none (t 78)), G 80 76 true (.call 18 [t 79]), A 81 (.pick (t 76) (t 80) (cb false)), A 82 (.mv (t 81)), G 83 82 true (.mv (t 1)), G 84 82 true (.ia 1 (t 83) (ci 0)), G 85 82 true (.ld none (t 84)), G 86 82 true (.mv (t 1)), G 87 82 true (.ia 1 (t 86) (ci 1)), G 88 82 true (.ld none (t 87)), G 89 82 true (.call 20 [t 85, t 88]), A 90 (.pick (t 82) (t 89) (cb false)), A 0 (.mv (t 90))]
  .nil
def c_law25_alive__1 : ACode := .reg [G 73 67 true (.bs 2 1 [Value.complex .f64 0 0] [(0, 1, Operand.const (Value.complex .f64 0 4607182418800017408)), (1, 1, Operand.const (Value.complex .f64 13830554455654793216 0))]), G 72 67 true (.call 9 [t 68, ci 0, t 71]), G 74 67 true (.call 8 [t 72, t 73]), A 75 (.pick (t 67) (t 74) (cb false)), A 76 (.mv (t 75)), G 77 76 true (.mv (t 1)), G 78 76 true (.ia 1 (t 77) (ci 1)), G 79 76 true (.ld none (t 78)), G 80 76 true (.call 18 [t 79]), A 81 (.pick (t 76) (t 80) (cb false)), A 82 (.mv (t 81)), G 83 82 true (.mv (t 1)), G 84 82 true (.ia 1 (t 83) (ci 0)), G 85 82 true (.ld none (t 84)), G 86 82 true (.mv (t 1)), G 87 82 true (.ia 1 (t 86) (ci 1)), G 88 82 true (.ld none (t 87)), G 89 82 true (.call 20 [t 85, t 88]), A 90 (.pick (t 82) (t 89) (cb false)), A 0 (.mv (t 90))]
  .nil
def c_law25_alive__2 : ACode := .reg [G 71 67 true (.bs 2 2 [.int .i64 0, .int .i64 0] [(0, 2, t 69), (2, 2, t 70)])]
  (.both c_law25_alive__0 c_law25_alive__1)
def c_law25_alive__3 : ACode := .reg [G 73 67 true (.bs 2 1 [Value.complex .f64 0 0] [(0, 1, Operand.const (Value.complex .f64 0 4607182418800017408)), (1, 1, Operand.const (Value.complex .f64 13830554455654793216 0))]), G 71 67 true (.bs 2 2 [.int .i64 0, .int .i64 0] [(0, 2, t 69), (2, 2, t 70)]), G 72 67 true (.call 9 [t 68, ci 0, t 71]), G 74 67 true (.call 8 [t 72, t 73]), A 75 (.pick (t 67) (t 74) (cb false)), A 76 (.mv (t 75)), G 77 76 true (.mv (t 1)), G 78 76 true (.ia 1 (t 77) (ci 1)), G 79 76 true (.ld none (t 78)), G 80 76 true (.call 18 [t 79]), A 81 (.pick (t 76) (t 80) (cb false)), A 82 (.mv (t 81)), G 83 82 true (.mv (t 1)), G 84 82 true (.ia 1 (t 83) (ci 0)), G 85 82 true (.ld none (t 84)), G 86 82 true (.mv (t 1)), G 87 82 true (.ia 1 (t 86) (ci 1)), G 88 82 true (.ld none (t 87)), G 89 82 true (.call 20 [t 85, t 88]), A 90 (.pick (t 82) (t 89) (cb false)), A 0 (.mv (t 90))]
  .nil
def c_law25_alive__4 : ACode := .reg [A 37 (.mv (t 2)), A 38 (.bin .eql (t 37) (ci 1)), A 39 (.mv (t 38)), G 40 39 true (.mv (t 3)), G 41 39 true (.un .not (t 40)), A 42 (.pick (t 39) (t 41) (cb false)), A 43 (.mv (t 42)), G 44 43 true (.mv (t 4)), G 45 43 true (.bin .eql (t 44) (ci 0)), A 46 (.pick (t 43) (t 45) (cb false)), A 47 (.mv (t 46)), G 48 47 true (.mv (t 5)), A 49 (.pick (t 47) (t 48) (cb false)), A 50 (.mv (t 49)), G 51 50 true (.mv (t 6)), G 52 50 true (.bin .eql (t 51) (ci 1)), A 53 (.pick (t 50) (t 52) (cb false)), A 54 (.mv (t 53)), G 55 54 true (.mv (t 7)), A 56 (.pick (t 54) (t 55) (cb false)), A 57 (.mv (t 56)), G 58 57 true (.mv (t 8)), G 59 57 true (.call 11 [t 58, ci 1, ci 0]), G 60 57 true (.bin .eql (t 59) (Operand.const (Value.complex .f64 0 4607182418800017408))), A 61 (.pick (t 57) (t 60) (cb false)), A 62 (.mv (t 61)), G 63 62 true (.mv (t 8)), G 64 62 true (.call 11 [t 63, ci 0, ci 1]), G 65 62 true (.bin .eql (t 64) (Operand.const (Value.complex .f64 13830554455654793216 0))), A 66 (.pick (t 62) (t 65) (cb false)), A 67 (.mv (t 66)), G 68 67 true (.mv (t 8)), G 69 67 true (.bld [.int .i64 0, .int .i64 0] [(0, 1, ci 1), (1, 1, ci 3)]), G 70 67 true (.bld [.int .i64 0, .int .i64 0] [(0, 1, ci 1), (1, 1, ci 2)])]
  (.both c_law25_alive__2 c_law25_alive__3)
def c_law25_alive : ACode := .reg [A 0 (.mv (cb false))]
  (.reg [A 9 (.bs 3 1 [Value.complex .f64 0 0] [(0, 1, Operand.const (Value.complex .f64 0 4611686018427387904)), (1, 1, Operand.const (Value.complex .f64 4607182418800017408 0)), (2, 1, Operand.const (Value.complex .f64 13830554455654793216 0))]), A 1 (.mv (t 9))]
  (.reg [A 11 (.mv (t 1)), A 12 (.mv (t 1)), A 13 (.ia 1 (t 12) (ci 0)), A 14 (.ld none (t 13)), A 15 (.call 13 [t 11, t 14]), A 10 (.mv (t 15)), A 16 (.ext (t 10) 0), A 17 (.ext (t 10) 1), A 2 (.mv (t 16)), A 3 (.mv (t 17))]
  (.reg [A 19 (.mv (t 1)), A 20 (.mv (t 1)), A 21 (.ia 1 (t 20) (ci 1)), A 22 (.ld none (t 21)), A 23 (.call 13 [t 19, t 22]), A 18 (.mv (t 23)), A 24 (.ext (t 18) 0), A 25 (.ext (t 18) 1), A 4 (.mv (t 24)), A 5 (.mv (t 25))]
  (.reg [A 27 (.mv (t 1)), A 28 (.mv (t 1)), A 29 (.ia 1 (t 28) (ci 0)), A 30 (.ld none (t 29)), A 31 (.call 14 [t 27, t 30]), A 26 (.mv (t 31)), A 32 (.ext (t 26) 0), A 33 (.ext (t 26) 1), A 6 (.mv (t 32)), A 7 (.mv (t 33))]
  (.reg [A 34 (.bs 2 1 [.int .i64 0] [(0, 1, ci 0), (1, 1, ci 2)]), A 35 (.bld [.int .i64 0, .int .i64 0, Value.slice none 0 0] [(1, 1, ci 3), (2, 1, t 34)]), A 36 (.bs 1 3 [.int .i64 0, .int .i64 0, Value.slice none 0 0] [(0, 3, t 35)]), A 8 (.mv (t 36))]
  (.cond (cb true) c_law25_alive__4 .nil .ret))))))
theorem code_law25_alive : CodeIs Try.prog 6 0 c_law25_alive [ARes.tmp 0] :=
  ⟨fun args H Q hl h => ACall_of Try.func6 rfl (by kernel_rfl) (by rw [hl]; exact Nat.le_of_ble_eq_true rfl) (by kernel_rfl) (by kernel_rfl) h⟩
theorem call_law25_alive {H : Heap} {Q : AEnd → Heap → Prop} (h : ∀ e, Wk Try.prog c_law25_alive (funP [ARes.tmp 0] Q) e [] H) : ACall Try.prog 6 [] H Q := code_law25_alive.all _ _ _ rfl (wk_entry rfl h)
/-! ductus/ductusref24.Great -/
def c_r24_Great__0 : ACode := .reg [A 17 (.mv (t 3)), A 18 (.mv (t 0)), A 19 (.mv (t 4)), A 20 (.ia 3 (t 18) (t 19)), A 21 (.fa 2 (t 20)), A 22 (.ld none (t 21)), A 23 (.len (t 22)), A 24 (.bin .add (t 17) (t 23)), A 3 (.mv (t 24))]
  .nil
def c_r24_Great__1 : ACode := .reg [A 15 (.mv (t 4)), A 16 (.bin .add (t 15) (ci 1)), A 4 (.mv (t 16))]
  .nil
def c_r24_Great__2 : ACode := .block 1 c_r24_Great__0 c_r24_Great__1
def c_r24_Great__3 : ACode := .reg [A 7 (.mv (t 4)), A 8 (.mv (t 0)), A 9 (.len (t 8)), A 10 (.bin .lss (t 7) (t 9)), A 11 (.mv (t 10)), G 12 11 true (.mv (t 3)), G 13 11 true (.bin .leq (t 12) (ci 500)), A 14 (.pick (t 11) (t 13) (cb false))]
  (.cond (t 14) .nil (.exit 0) c_r24_Great__2)
-- loop c_r24_Great__3: carried [3, 4] keep [0]
def c_r24_Great__4 : ACode := .loop c_r24_Great__3
def c_r24_Great__5 : ACode := .reg [A 25 (.mv (t 3)), A 26 (.bin .gtr (t 25) (ci 500)), A 2 (.mv (t 26))]
  .ret
def c_r24_Great : ACode := .reg [A 2 (.mv (cb false))]
  (.reg [A 5 (.mv (t 0)), A 6 (.len (t 5)), A 3 (.mv (t 6))]
  (.reg [A 4 (.mv (ci 0))]
  (.block 0 c_r24_Great__4 c_r24_Great__5)))
theorem code_r24_Great : CodeIs Try.prog 7 1 c_r24_Great [ARes.tmp 2] :=
  ⟨fun args H Q hl h => ACall_of Try.func7 rfl (by kernel_rfl) (by rw [hl]; exact Nat.le_of_ble_eq_true rfl) (by kernel_rfl) (by kernel_rfl) h⟩
theorem call_r24_Great {a0 : Value} {H : Heap} {Q : AEnd → Heap → Prop} (h : ∀ e, Wk Try.prog c_r24_Great (funP [ARes.tmp 2] Q) e [(0, a0)] H) : ACall Try.prog 7 [a0] H Q := code_r24_Great.all _ _ _ rfl (wk_entry rfl h)
/-! ductus/ductusref25.Same -/
def c_r25_Same__0 : ACode := .reg [A 4 (.mv (cb false))]
  .ret
def c_r25_Same__1 : ACode := .reg [A 4 (.mv (cb false))]
  .ret
def c_r25_Same__2 : ACode := .reg [A 17 (.mv (t 0)), A 18 (.mv (t 5)), A 19 (.ia 1 (t 17) (t 18)), A 20 (.ld none (t 19)), A 21 (.mv (t 1)), A 22 (.mv (t 5)), A 23 (.ia 1 (t 21) (t 22)), A 24 (.ld none (t 23)), A 25 (.bin .neq (t 20) (t 24))]
  (.cond (t 25) c_r25_Same__1 .nil .nil)
def c_r25_Same__3 : ACode := .reg [A 15 (.mv (t 5)), A 16 (.bin .add (t 15) (ci 1)), A 5 (.mv (t 16))]
  .nil
def c_r25_Same__4 : ACode := .block 1 c_r25_Same__2 c_r25_Same__3
def c_r25_Same__5 : ACode := .reg [A 11 (.mv (t 5)), A 12 (.mv (t 0)), A 13 (.len (t 12)), A 14 (.bin .lss (t 11) (t 13))]
  (.cond (t 14) .nil (.exit 0) c_r25_Same__4)
-- loop c_r25_Same__5: carried [5] keep [0, 1]
def c_r25_Same__6 : ACode := .loop c_r25_Same__5
def c_r25_Same__7 : ACode := .reg [A 4 (.mv (cb true))]
  .ret
def c_r25_Same__8 : ACode := .reg [A 5 (.mv (ci 0))]
  (.block 0 c_r25_Same__6 c_r25_Same__7)
def c_r25_Same : ACode := .reg [A 4 (.mv (cb false))]
  (.reg [A 6 (.mv (t 0)), A 7 (.len (t 6)), A 8 (.mv (t 1)), A 9 (.len (t 8)), A 10 (.bin .neq (t 7) (t 9))]
  (.cond (t 10) c_r25_Same__0 .nil c_r25_Same__8))
theorem code_r25_Same : CodeIs Try.prog 8 2 c_r25_Same [ARes.tmp 4] :=
  ⟨fun args H Q hl h => ACall_of Try.func8 rfl (by kernel_rfl) (by rw [hl]; exact Nat.le_of_ble_eq_true rfl) (by kernel_rfl) (by kernel_rfl) h⟩
theorem call_r25_Same {a0 a1 : Value} {H : Heap} {Q : AEnd → Heap → Prop} (h : ∀ e, Wk Try.prog c_r25_Same (funP [ARes.tmp 4] Q) e [(0, a0), (1, a1)] H) : ACall Try.prog 8 [a0, a1] H Q := code_r25_Same.all _ _ _ rfl (wk_entry rfl h)
/-! ductus/tour.Keys -/
def c_tour_Keys__0 : ACode := .reg [A 45 (.mv (t 10)), A 46 (.mv (t 14)), A 47 (.bs 1 1 [.int .i64 0] [(0, 1, t 46)]), A 48 (.app 1 8 [.int .i64 0] (t 45) (t 47)), A 10 (.mv (t 48))]
  .nil
def c_tour_Keys__1 : ACode := .reg [A 33 (.ia 1 (t 29) (t 31)), A 34 (.ld none (t 33)), A 14 (.mv (t 34))]
  (.reg [A 35 (.mv (t 14)), A 36 (.fa 0 (t 9)), A 37 (.ld none (t 36)), A 38 (.bin .geq (t 35) (t 37)), A 39 (.mv (t 38)), G 40 39 true (.mv (t 14)), G 41 39 true (.fa 1 (t 9)), G 42 39 true (.ld none (t 41)), G 43 39 true (.bin .lss (t 40) (t 42)), A 44 (.pick (t 39) (t 43) (cb false))]
  (.cond (t 44) c_tour_Keys__0 .nil .nil))
def c_tour_Keys__2 : ACode := .reg [A 49 (.bin .add (t 31) (ci 1)), A 31 (.mv (t 49))]
  .nil
def c_tour_Keys__3 : ACode := .block 5 c_tour_Keys__1 c_tour_Keys__2
def c_tour_Keys__4 : ACode := .reg [A 32 (.bin .lss (t 31) (t 30))]
  (.cond (t 32) .nil (.exit 4) c_tour_Keys__3)
-- loop c_tour_Keys__4: carried [10, 31] keep [0, 1, 7, 9, 16, 17, 18, 22, 23, 24, 29, 30]
def c_tour_Keys__5 : ACode := .loop c_tour_Keys__4
def c_tour_Keys__6 : ACode := .reg [A 26 (.ia 3 (t 22) (t 24)), A 27 (.ld (some 3) (t 26)), A 12 (.al [.int .i64 0, .int .i64 0, Value.slice none 0 0]), S (.st 3 (t 12) (t 27))]
  (.reg [A 28 (.fa 2 (t 12)), A 29 (.ld none (t 28)), A 30 (.len (t 29)), A 31 (.mv (ci 0))]
  (.block 4 c_tour_Keys__5 .nil))
def c_tour_Keys__7 : ACode := .reg [A 50 (.bin .add (t 24) (ci 1)), A 24 (.mv (t 50))]
  .nil
def c_tour_Keys__8 : ACode := .block 3 c_tour_Keys__6 c_tour_Keys__7
def c_tour_Keys__9 : ACode := .reg [A 25 (.bin .lss (t 24) (t 23))]
  (.cond (t 25) .nil (.exit 2) c_tour_Keys__8)
-- loop c_tour_Keys__9: carried [10, 24] keep [0, 1, 7, 9, 16, 17, 18, 22, 23]
def c_tour_Keys__10 : ACode := .loop c_tour_Keys__9
def c_tour_Keys__11 : ACode := .reg [A 54 (.mv (t 0)), A 55 (.mv (t 1)), A 56 (.mv (t 10)), A 57 (.call 21 [t 56]), A 58 (.call 11 [t 54, t 55, t 57]), A 15 (.mv (t 58))]
  .nil
def c_tour_Keys__12 : ACode := .reg [A 59 (.mv (t 7)), A 60 (.mv (t 15)), A 61 (.bs 1 1 [Value.complex .f64 0 0] [(0, 1, t 60)]), A 62 (.app 1 16 [Value.complex .f64 0 0] (t 59) (t 61)), A 7 (.mv (t 62))]
  .nil
def c_tour_Keys__13 : ACode := .reg [A 15 (.mv (Operand.const (Value.complex .f64 13830554455654793216 0)))]
  (.reg [A 51 (.mv (t 10)), A 52 (.len (t 51)), A 53 (.bin .gtr (t 52) (ci 0))]
  (.cond (t 53) c_tour_Keys__11 .nil c_tour_Keys__12))
def c_tour_Keys__14 : ACode := .reg [A 20 (.ia 2 (t 16) (t 18)), A 21 (.ld (some 2) (t 20)), A 9 (.al [.int .i64 0, .int .i64 0]), S (.st 2 (t 9) (t 21))]
  (.reg [A 10 (.mv (Operand.const (Value.slice none 0 0)))]
  (.reg [A 22 (.mv (t 0)), A 23 (.len (t 22)), A 24 (.mv (ci 0))]
  (.block 2 c_tour_Keys__10 c_tour_Keys__13)))
def c_tour_Keys__15 : ACode := .reg [A 63 (.bin .add (t 18) (ci 1)), A 18 (.mv (t 63))]
  .nil
def c_tour_Keys__16 : ACode := .block 1 c_tour_Keys__14 c_tour_Keys__15
def c_tour_Keys__17 : ACode := .reg [A 19 (.bin .lss (t 18) (t 17))]
  (.cond (t 19) .nil (.exit 0) c_tour_Keys__16)
-- loop c_tour_Keys__17: carried [7, 18] keep [0, 1, 16, 17]
def c_tour_Keys__18 : ACode := .loop c_tour_Keys__17
def c_tour_Keys__19 : ACode := .reg [A 64 (.mv (t 7)), A 6 (.mv (t 64))]
  .ret
def c_tour_Keys : ACode := .reg [A 6 (.mv (Operand.const (Value.slice none 0 0)))]
  (.reg [A 7 (.mv (Operand.const (Value.slice none 0 0)))]
  (.reg [A 16 (.mv (t 2)), A 17 (.len (t 16)), A 18 (.mv (ci 0))]
  (.block 0 c_tour_Keys__18 c_tour_Keys__19)))
theorem code_tour_Keys : CodeIs Try.prog 9 3 c_tour_Keys [ARes.tmp 6] :=
  ⟨fun args H Q hl h => ACall_of Try.func9 rfl (by kernel_rfl) (by rw [hl]; exact Nat.le_of_ble_eq_true rfl) (by kernel_rfl) (by kernel_rfl) h⟩
theorem call_tour_Keys {a0 a1 a2 : Value} {H : Heap} {Q : AEnd → Heap → Prop} (h : ∀ e, Wk Try.prog c_tour_Keys (funP [ARes.tmp 6] Q) e [(0, a0), (1, a1), (2, a2)] H) : ACall Try.prog 9 [a0, a1, a2] H Q := code_tour_Keys.all _ _ _ rfl (wk_entry rfl h)
/-! ductus/ductusref25.Keys -/
def c_r25_Keys__0 : ACode := .reg [A 27 (.mv (t 7)), A 28 (.mv (t 0)), A 29 (.mv (t 1)), A 30 (.mv (t 9)), A 31 (.call 12 [t 28, t 29, t 30]), A 32 (.bs 1 1 [Value.complex .f64 0 0] [(0, 1, t 31)]), A 33 (.app 1 16 [Value.complex .f64 0 0] (t 27) (t 32)), A 7 (.mv (t 33))]
  .nil
def c_r25_Keys__1 : ACode := .reg [A 34 (.mv (t 7)), A 35 (.bs 1 1 [Value.complex .f64 0 0] [(0, 1, Operand.const (Value.complex .f64 13830554455654793216 0))]), A 36 (.app 1 16 [Value.complex .f64 0 0] (t 34) (t 35)), A 7 (.mv (t 36))]
  .nil
def c_r25_Keys__2 : ACode := .reg [A 18 (.mv (t 0)), A 19 (.mv (t 2)), A 20 (.mv (t 8)), A 21 (.ia 2 (t 19) (t 20)), A 22 (.ld (some 2) (t 21)), A 23 (.call 22 [t 18, t 22]), A 17 (.mv (t 23)), A 24 (.ext (t 17) 0), A 25 (.ext (t 17) 1), A 9 (.mv (t 24)), A 10 (.mv (t 25))]
  (.reg [A 26 (.mv (t 10))]
  (.cond (t 26) c_r25_Keys__0 c_r25_Keys__1 .nil))
def c_r25_Keys__3 : ACode := .reg [A 15 (.mv (t 8)), A 16 (.bin .add (t 15) (ci 1)), A 8 (.mv (t 16))]
  .nil
def c_r25_Keys__4 : ACode := .block 1 c_r25_Keys__2 c_r25_Keys__3
def c_r25_Keys__5 : ACode := .reg [A 11 (.mv (t 8)), A 12 (.mv (t 2)), A 13 (.len (t 12)), A 14 (.bin .lss (t 11) (t 13))]
  (.cond (t 14) .nil (.exit 0) c_r25_Keys__4)
-- loop c_r25_Keys__5: carried [7, 8] keep [0, 1, 2]
def c_r25_Keys__6 : ACode := .loop c_r25_Keys__5
def c_r25_Keys__7 : ACode := .reg [A 37 (.mv (t 7)), A 6 (.mv (t 37))]
  .ret
def c_r25_Keys : ACode := .reg [A 6 (.mv (Operand.const (Value.slice none 0 0)))]
  (.reg [A 7 (.mv (Operand.const (Value.slice none 0 0)))]
  (.reg [A 8 (.mv (ci 0))]
  (.block 0 c_r25_Keys__6 c_r25_Keys__7)))
theorem code_r25_Keys : CodeIs Try.prog 10 3 c_r25_Keys [ARes.tmp 6] :=
  ⟨fun args H Q hl h => ACall_of Try.func10 rfl (by kernel_rfl) (by rw [hl]; exact Nat.le_of_ble_eq_true rfl) (by kernel_rfl) (by kernel_rfl) h⟩
theorem call_r25_Keys {a0 a1 a2 : Value} {H : Heap} {Q : AEnd → Heap → Prop} (h : ∀ e, Wk Try.prog c_r25_Keys (funP [ARes.tmp 6] Q) e [(0, a0), (1, a1), (2, a2)] H) : ACall Try.prog 10 [a0, a1, a2] H Q := code_r25_Keys.all _ _ _ rfl (wk_entry rfl h)
/-! ductus/tour.Key -/
def c_tour_Key__0 : ACode := .reg [A 6 (.mv (Operand.const (Value.complex .f64 13830554455654793216 0)))]
  .ret
def c_tour_Key__1 : ACode := .reg [A 19 (.mv (t 0)), A 20 (.mv (t 7)), A 21 (.ia 3 (t 19) (t 20)), A 22 (.fa 2 (t 21)), A 23 (.ld none (t 22)), A 24 (.len (t 23)), A 25 (.mv (t 8)), A 26 (.bin .sub (t 24) (t 25)), A 27 (.bin .sub (t 26) (ci 1)), A 8 (.mv (t 27))]
  .nil
def c_tour_Key__2 : ACode := .reg [A 6 (.mv (Operand.const (Value.complex .f64 13830554455654793216 0)))]
  .ret
def c_tour_Key__3 : ACode := .reg [A 32 (.mv (t 7)), A 33 (.cvF .f64 (t 32)), A 34 (.mv (t 8)), A 35 (.cvF .f64 (t 34)), A 36 (.cx (t 33) (t 35)), A 6 (.mv (t 36))]
  .ret
def c_tour_Key__4 : ACode := .reg [A 28 (.mv (t 7)), A 29 (.mv (t 8)), A 30 (.mx [t 28, t 29]), A 31 (.bin .gtr (t 30) (ci 1048576))]
  (.cond (t 31) c_tour_Key__2 .nil c_tour_Key__3)
def c_tour_Key__5 : ACode := .reg [A 17 (.mv (t 1)), A 18 (.bin .neq (t 17) (ci 0))]
  (.cond (t 18) c_tour_Key__1 .nil c_tour_Key__4)
def c_tour_Key : ACode := .reg [A 6 (.mv (Operand.const (Value.complex .f64 0 0)))]
  (.reg [A 10 (.mv (t 0)), A 11 (.mv (t 2)), A 12 (.call 23 [t 10, t 11]), A 9 (.mv (t 12)), A 13 (.ext (t 9) 0), A 14 (.ext (t 9) 1), A 7 (.mv (t 13)), A 8 (.mv (t 14))]
  (.reg [A 15 (.mv (t 7)), A 16 (.bin .lss (t 15) (ci 0))]
  (.cond (t 16) c_tour_Key__0 .nil c_tour_Key__5)))
theorem code_tour_Key : CodeIs Try.prog 11 3 c_tour_Key [ARes.tmp 6] :=
  ⟨fun args H Q hl h => ACall_of Try.func11 rfl (by kernel_rfl) (by rw [hl]; exact Nat.le_of_ble_eq_true rfl) (by kernel_rfl) (by kernel_rfl) h⟩
theorem call_tour_Key {a0 a1 a2 : Value} {H : Heap} {Q : AEnd → Heap → Prop} (h : ∀ e, Wk Try.prog c_tour_Key (funP [ARes.tmp 6] Q) e [(0, a0), (1, a1), (2, a2)] H) : ACall Try.prog 11 [a0, a1, a2] H Q := code_tour_Key.all _ _ _ rfl (wk_entry rfl h)
/-! ductus/ductusref25.Key -/
def c_r25_Key__0 : ACode := .reg [A 6 (.mv (Operand.const (Value.complex .f64 13830554455654793216 0)))]
  .ret
def c_r25_Key__1 : ACode := .reg [A 19 (.mv (t 0)), A 20 (.mv (t 7)), A 21 (.ia 3 (t 19) (t 20)), A 22 (.fa 2 (t 21)), A 23 (.ld none (t 22)), A 24 (.len (t 23)), A 25 (.bin .sub (t 24) (ci 1)), A 26 (.mv (t 8)), A 27 (.bin .sub (t 25) (t 26)), A 8 (.mv (t 27))]
  .nil
def c_r25_Key__2 : ACode := .reg [A 6 (.mv (Operand.const (Value.complex .f64 13830554455654793216 0)))]
  .ret
def c_r25_Key__3 : ACode := .reg [A 34 (.mv (t 7)), A 35 (.cvF .f64 (t 34)), A 36 (.mv (t 8)), A 37 (.cvF .f64 (t 36)), A 38 (.cx (t 35) (t 37)), A 6 (.mv (t 38))]
  .ret
def c_r25_Key__4 : ACode := .reg [A 28 (.mv (t 7)), A 29 (.bin .gtr (t 28) (ci 1048576)), A 30 (.mv (t 29)), G 31 30 false (.mv (t 8)), G 32 30 false (.bin .gtr (t 31) (ci 1048576)), A 33 (.pick (t 30) (cb true) (t 32))]
  (.cond (t 33) c_r25_Key__2 .nil c_r25_Key__3)
def c_r25_Key__5 : ACode := .reg [A 17 (.mv (t 1)), A 18 (.bin .neq (t 17) (ci 0))]
  (.cond (t 18) c_r25_Key__1 .nil c_r25_Key__4)
def c_r25_Key : ACode := .reg [A 6 (.mv (Operand.const (Value.complex .f64 0 0)))]
  (.reg [A 10 (.mv (t 0)), A 11 (.mv (t 2)), A 12 (.call 24 [t 10, t 11]), A 9 (.mv (t 12)), A 13 (.ext (t 9) 0), A 14 (.ext (t 9) 1), A 7 (.mv (t 13)), A 8 (.mv (t 14))]
  (.reg [A 15 (.mv (t 7)), A 16 (.bin .lss (t 15) (ci 0))]
  (.cond (t 16) c_r25_Key__0 .nil c_r25_Key__5)))
theorem code_r25_Key : CodeIs Try.prog 12 3 c_r25_Key [ARes.tmp 6] :=
  ⟨fun args H Q hl h => ACall_of Try.func12 rfl (by kernel_rfl) (by rw [hl]; exact Nat.le_of_ble_eq_true rfl) (by kernel_rfl) (by kernel_rfl) h⟩
theorem call_r25_Key {a0 a1 a2 : Value} {H : Heap} {Q : AEnd → Heap → Prop} (h : ∀ e, Wk Try.prog c_r25_Key (funP [ARes.tmp 6] Q) e [(0, a0), (1, a1), (2, a2)] H) : ACall Try.prog 12 [a0, a1, a2] H Q := code_r25_Key.all _ _ _ rfl (wk_entry rfl h)
/-! ductus/tour.Next -/
def c_tour_Next : ACode := .reg [A 3 (.bx (t 1)), A 4 (.mv (ci 0)), A 5 (.mv (cb false))]
  (.reg [A 6 (.mv (t 0)), A 7 (.mkf 26 [] [t 3]), A 8 (.call 25 [t 6, t 7, Operand.func 28]), A 9 (.ext (t 8) 0), A 10 (.ext (t 8) 1), A 4 (.mv (t 9)), A 5 (.mv (t 10))]
  .ret)
theorem code_tour_Next : CodeIs Try.prog 13 2 c_tour_Next [ARes.tmp 4, ARes.tmp 5] :=
  ⟨fun args H Q hl h => ACall_of Try.func13 rfl (by kernel_rfl) (by rw [hl]; exact Nat.le_of_ble_eq_true rfl) (by kernel_rfl) (by kernel_rfl) h⟩
theorem call_tour_Next {a0 a1 : Value} {H : Heap} {Q : AEnd → Heap → Prop} (h : ∀ e, Wk Try.prog c_tour_Next (funP [ARes.tmp 4, ARes.tmp 5] Q) e [(0, a0), (1, a1)] H) : ACall Try.prog 13 [a0, a1] H Q := code_tour_Next.all _ _ _ rfl (wk_entry rfl h)
/-! ductus/tour.Prev -/
def c_tour_Prev : ACode := .reg [A 3 (.bx (t 1)), A 4 (.mv (ci 0)), A 5 (.mv (cb false))]
  (.reg [A 6 (.mv (t 0)), A 7 (.mkf 29 [] [t 3]), A 8 (.call 25 [t 6, t 7, Operand.func 30]), A 9 (.ext (t 8) 0), A 10 (.ext (t 8) 1), A 4 (.mv (t 9)), A 5 (.mv (t 10))]
  .ret)
theorem code_tour_Prev : CodeIs Try.prog 14 2 c_tour_Prev [ARes.tmp 4, ARes.tmp 5] :=
  ⟨fun args H Q hl h => ACall_of Try.func14 rfl (by kernel_rfl) (by rw [hl]; exact Nat.le_of_ble_eq_true rfl) (by kernel_rfl) (by kernel_rfl) h⟩
theorem call_tour_Prev {a0 a1 : Value} {H : Heap} {Q : AEnd → Heap → Prop} (h : ∀ e, Wk Try.prog c_tour_Prev (funP [ARes.tmp 4, ARes.tmp 5] Q) e [(0, a0), (1, a1)] H) : ACall Try.prog 14 [a0, a1] H Q := code_tour_Prev.all _ _ _ rfl (wk_entry rfl h)
/-! ductus/tour.Right -/
def c_tour_Right : ACode := .reg [A 2 (.mv (cb false))]
  (.reg [A 3 (.mv (t 0)), A 4 (.re (t 3)), A 5 (.call 36 [t 4]), A 6 (.mv (t 5)), G 7 6 true (.mv (t 0)), G 8 6 true (.im (t 7)), G 9 6 true (.call 36 [t 8]), A 10 (.pick (t 6) (t 9) (cb false)), A 2 (.mv (t 10))]
  .ret)
theorem code_tour_Right : CodeIs Try.prog 18 1 c_tour_Right [ARes.tmp 2] :=
  ⟨fun args H Q hl h => ACall_of Try.func18 rfl (by kernel_rfl) (by rw [hl]; exact Nat.le_of_ble_eq_true rfl) (by kernel_rfl) (by kernel_rfl) h⟩
theorem call_tour_Right {a0 : Value} {H : Heap} {Q : AEnd → Heap → Prop} (h : ∀ e, Wk Try.prog c_tour_Right (funP [ARes.tmp 2] Q) e [(0, a0)] H) : ACall Try.prog 18 [a0] H Q := code_tour_Right.all _ _ _ rfl (wk_entry rfl h)
/-! ductus/tour.Less -/
def c_tour_Less : ACode := .reg [A 4 (.mv (cb false))]
  (.reg [A 5 (.mv (t 0)), A 6 (.call 18 [t 5]), A 7 (.mv (t 6)), G 8 7 true (.mv (t 1)), G 9 7 true (.call 18 [t 8]), A 10 (.pick (t 7) (t 9) (cb false)), A 11 (.mv (t 10)), G 12 11 true (.mv (t 0)), G 13 11 true (.mv (t 1)), G 14 11 true (.call 27 [t 12, t 13]), G 15 11 true (.bin .lss (t 14) (ci 0)), A 16 (.pick (t 11) (t 15) (cb false)), A 4 (.mv (t 16))]
  .ret)
theorem code_tour_Less : CodeIs Try.prog 20 2 c_tour_Less [ARes.tmp 4] :=
  ⟨fun args H Q hl h => ACall_of Try.func20 rfl (by kernel_rfl) (by rw [hl]; exact Nat.le_of_ble_eq_true rfl) (by kernel_rfl) (by kernel_rfl) h⟩
theorem call_tour_Less {a0 a1 : Value} {H : Heap} {Q : AEnd → Heap → Prop} (h : ∀ e, Wk Try.prog c_tour_Less (funP [ARes.tmp 4] Q) e [(0, a0), (1, a1)] H) : ACall Try.prog 20 [a0, a1] H Q := code_tour_Less.all _ _ _ rfl (wk_entry rfl h)
/-! slices.Min[[]int,int] -/
def c_slices_Min_int_int__0 : ACode := .reg [A 8 (.mki 9 (cs [115, 108, 105, 99, 101, 115, 46, 77, 105, 110, 58, 32, 101, 109, 112, 116, 121, 32, 108, 105, 115, 116])), S (.pan (t 8))]
  .nil
def c_slices_Min_int_int__1 : ACode := .reg [A 18 (.mv (t 3)), A 19 (.mv (t 0)), A 20 (.mv (t 4)), A 21 (.ia 1 (t 19) (t 20)), A 22 (.ld none (t 21)), A 23 (.mn [t 18, t 22]), A 3 (.mv (t 23))]
  .nil
def c_slices_Min_int_int__2 : ACode := .reg [A 16 (.mv (t 4)), A 17 (.bin .add (t 16) (ci 1)), A 4 (.mv (t 17))]
  .nil
def c_slices_Min_int_int__3 : ACode := .block 1 c_slices_Min_int_int__1 c_slices_Min_int_int__2
def c_slices_Min_int_int__4 : ACode := .reg [A 12 (.mv (t 4)), A 13 (.mv (t 0)), A 14 (.len (t 13)), A 15 (.bin .lss (t 12) (t 14))]
  (.cond (t 15) .nil (.exit 0) c_slices_Min_int_int__3)
-- loop c_slices_Min_int_int__4: carried [3, 4] keep [0]
def c_slices_Min_int_int__5 : ACode := .loop c_slices_Min_int_int__4
def c_slices_Min_int_int__6 : ACode := .reg [A 24 (.mv (t 3)), A 2 (.mv (t 24))]
  .ret
def c_slices_Min_int_int__7 : ACode := .reg [A 9 (.mv (t 0)), A 10 (.ia 1 (t 9) (ci 0)), A 11 (.ld none (t 10)), A 3 (.mv (t 11))]
  (.reg [A 4 (.mv (ci 1))]
  (.block 0 c_slices_Min_int_int__5 c_slices_Min_int_int__6))
def c_slices_Min_int_int : ACode := .reg [A 2 (.mv (ci 0))]
  (.reg [A 5 (.mv (t 0)), A 6 (.len (t 5)), A 7 (.bin .lss (t 6) (ci 1))]
  (.cond (t 7) c_slices_Min_int_int__0 .nil c_slices_Min_int_int__7))
theorem code_slices_Min_int_int : CodeIs Try.prog 21 1 c_slices_Min_int_int [ARes.tmp 2] :=
  ⟨fun args H Q hl h => ACall_of Try.func21 rfl (by kernel_rfl) (by rw [hl]; exact Nat.le_of_ble_eq_true rfl) (by kernel_rfl) (by kernel_rfl) h⟩
theorem call_slices_Min_int_int {a0 : Value} {H : Heap} {Q : AEnd → Heap → Prop} (h : ∀ e, Wk Try.prog c_slices_Min_int_int (funP [ARes.tmp 2] Q) e [(0, a0)] H) : ACall Try.prog 21 [a0] H Q := code_slices_Min_int_int.all _ _ _ rfl (wk_entry rfl h)
/-! ductus/ductusref25.first -/
def c_r25_first__0 : ACode := .reg [A 54 (.mv (t 10)), A 6 (.mv (t 54)), A 7 (.mv (cb true))]
  .nil
def c_r25_first__1 : ACode := .reg [A 27 (.mv (t 0)), A 28 (.mv (t 8)), A 29 (.ia 3 (t 27) (t 28)), A 30 (.fa 2 (t 29)), A 31 (.ld none (t 30)), A 32 (.mv (t 9)), A 33 (.ia 1 (t 31) (t 32)), A 34 (.ld none (t 33)), A 10 (.mv (t 34))]
  (.reg [A 35 (.mv (t 10)), A 36 (.fa 0 (t 3)), A 37 (.ld none (t 36)), A 38 (.bin .geq (t 35) (t 37)), A 39 (.mv (t 38)), G 40 39 true (.mv (t 10)), G 41 39 true (.fa 1 (t 3)), G 42 39 true (.ld none (t 41)), G 43 39 true (.bin .lss (t 40) (t 42)), A 44 (.pick (t 39) (t 43) (cb false)), A 45 (.mv (t 44)), G 46 45 true (.mv (t 7)), G 47 45 true (.un .not (t 46)), G 48 45 true (.mv (t 47)), G 49 48 false (.mv (t 10)), G 50 48 false (.mv (t 6)), G 51 48 false (.bin .lss (t 49) (t 50)), G 52 45 true (.pick (t 48) (cb true) (t 51)), A 53 (.pick (t 45) (t 52) (cb false))]
  (.cond (t 53) c_r25_first__0 .nil .nil))
def c_r25_first__2 : ACode := .reg [A 25 (.mv (t 9)), A 26 (.bin .add (t 25) (ci 1)), A 9 (.mv (t 26))]
  .nil
def c_r25_first__3 : ACode := .block 3 c_r25_first__1 c_r25_first__2
def c_r25_first__4 : ACode := .reg [A 17 (.mv (t 9)), A 18 (.mv (t 0)), A 19 (.mv (t 8)), A 20 (.ia 3 (t 18) (t 19)), A 21 (.fa 2 (t 20)), A 22 (.ld none (t 21)), A 23 (.len (t 22)), A 24 (.bin .lss (t 17) (t 23))]
  (.cond (t 24) .nil (.exit 2) c_r25_first__3)
-- loop c_r25_first__4: carried [6, 7, 9] keep [0, 3, 8]
def c_r25_first__5 : ACode := .loop c_r25_first__4
def c_r25_first__6 : ACode := .reg [A 9 (.mv (ci 0))]
  (.block 2 c_r25_first__5 .nil)
def c_r25_first__7 : ACode := .reg [A 15 (.mv (t 8)), A 16 (.bin .add (t 15) (ci 1)), A 8 (.mv (t 16))]
  .nil
def c_r25_first__8 : ACode := .block 1 c_r25_first__6 c_r25_first__7
def c_r25_first__9 : ACode := .reg [A 11 (.mv (t 8)), A 12 (.mv (t 0)), A 13 (.len (t 12)), A 14 (.bin .lss (t 11) (t 13))]
  (.cond (t 14) .nil (.exit 0) c_r25_first__8)
-- loop c_r25_first__9: carried [6, 7, 8] keep [0, 3]
def c_r25_first__10 : ACode := .loop c_r25_first__9
def c_r25_first__11 : ACode := .reg [A 55 (.mv (t 6)), A 56 (.mv (t 7)), A 4 (.mv (t 55)), A 5 (.mv (t 56))]
  .ret
def c_r25_first : ACode := .reg [A 3 (.bx (t 1)), A 4 (.mv (ci 0)), A 5 (.mv (cb false))]
  (.reg [A 6 (.mv (ci 0)), A 7 (.mv (cb false))]
  (.reg [A 8 (.mv (ci 0))]
  (.block 0 c_r25_first__10 c_r25_first__11)))
theorem code_r25_first : CodeIs Try.prog 22 2 c_r25_first [ARes.tmp 4, ARes.tmp 5] :=
  ⟨fun args H Q hl h => ACall_of Try.func22 rfl (by kernel_rfl) (by rw [hl]; exact Nat.le_of_ble_eq_true rfl) (by kernel_rfl) (by kernel_rfl) h⟩
theorem call_r25_first {a0 a1 : Value} {H : Heap} {Q : AEnd → Heap → Prop} (h : ∀ e, Wk Try.prog c_r25_first (funP [ARes.tmp 4, ARes.tmp 5] Q) e [(0, a0), (1, a1)] H) : ACall Try.prog 22 [a0, a1] H Q := code_r25_first.all _ _ _ rfl (wk_entry rfl h)
/-! ductus/frag.Place -/
def c_frag_Place__0 : ACode := .reg [A 22 (.mv (t 6)), A 23 (.mv (t 8)), A 4 (.mv (t 22)), A 5 (.mv (t 23))]
  .ret
def c_frag_Place__1 : ACode := .reg [A 13 (.mv (t 11)), A 14 (.ia 3 (t 9) (t 11)), A 15 (.ld (some 3) (t 14)), A 7 (.al [.int .i64 0, .int .i64 0, Value.slice none 0 0]), A 6 (.mv (t 13)), S (.st 3 (t 7) (t 15))]
  (.reg [A 16 (.fa 2 (t 7)), A 17 (.ld none (t 16)), A 18 (.mv (t 1)), A 19 (.call 37 [t 17, t 18]), A 8 (.mv (t 19))]
  (.reg [A 20 (.mv (t 8)), A 21 (.bin .geq (t 20) (ci 0))]
  (.cond (t 21) c_frag_Place__0 .nil .nil)))
def c_frag_Place__2 : ACode := .reg [A 24 (.bin .add (t 11) (ci 1)), A 11 (.mv (t 24))]
  .nil
def c_frag_Place__3 : ACode := .block 1 c_frag_Place__1 c_frag_Place__2
def c_frag_Place__4 : ACode := .reg [A 12 (.bin .lss (t 11) (t 10))]
  (.cond (t 12) .nil (.exit 0) c_frag_Place__3)
-- loop c_frag_Place__4: carried [11] keep [1, 9, 10]
def c_frag_Place__5 : ACode := .loop c_frag_Place__4
def c_frag_Place__6 : ACode := .reg [A 4 (.mv (ci (-1))), A 5 (.mv (ci (-1)))]
  .ret
def c_frag_Place : ACode := .reg [A 4 (.mv (ci 0)), A 5 (.mv (ci 0))]
  (.reg [A 9 (.mv (t 0)), A 10 (.len (t 9)), A 11 (.mv (ci 0))]
  (.block 0 c_frag_Place__5 c_frag_Place__6))
theorem code_frag_Place : CodeIs Try.prog 23 2 c_frag_Place [ARes.tmp 4, ARes.tmp 5] :=
  ⟨fun args H Q hl h => ACall_of Try.func23 rfl (by kernel_rfl) (by rw [hl]; exact Nat.le_of_ble_eq_true rfl) (by kernel_rfl) (by kernel_rfl) h⟩
theorem call_frag_Place {a0 a1 : Value} {H : Heap} {Q : AEnd → Heap → Prop} (h : ∀ e, Wk Try.prog c_frag_Place (funP [ARes.tmp 4, ARes.tmp 5] Q) e [(0, a0), (1, a1)] H) : ACall Try.prog 23 [a0, a1] H Q := code_frag_Place.all _ _ _ rfl (wk_entry rfl h)
/-! ductus/ductusref24.Place -/
def c_r24_Place__0 : ACode := .reg [A 34 (.mv (t 6)), A 35 (.mv (t 7)), A 4 (.mv (t 34)), A 5 (.mv (t 35))]
  .ret
def c_r24_Place__1 : ACode := .reg [A 24 (.mv (t 0)), A 25 (.mv (t 6)), A 26 (.ia 3 (t 24) (t 25)), A 27 (.fa 2 (t 26)), A 28 (.ld none (t 27)), A 29 (.mv (t 7)), A 30 (.ia 1 (t 28) (t 29)), A 31 (.ld none (t 30)), A 32 (.mv (t 1)), A 33 (.bin .eql (t 31) (t 32))]
  (.cond (t 33) c_r24_Place__0 .nil .nil)
def c_r24_Place__2 : ACode := .reg [A 22 (.mv (t 7)), A 23 (.bin .add (t 22) (ci 1)), A 7 (.mv (t 23))]
  .nil
def c_r24_Place__3 : ACode := .block 3 c_r24_Place__1 c_r24_Place__2
def c_r24_Place__4 : ACode := .reg [A 14 (.mv (t 7)), A 15 (.mv (t 0)), A 16 (.mv (t 6)), A 17 (.ia 3 (t 15) (t 16)), A 18 (.fa 2 (t 17)), A 19 (.ld none (t 18)), A 20 (.len (t 19)), A 21 (.bin .lss (t 14) (t 20))]
  (.cond (t 21) .nil (.exit 2) c_r24_Place__3)
-- loop c_r24_Place__4: carried [7] keep [0, 1, 6]
def c_r24_Place__5 : ACode := .loop c_r24_Place__4
def c_r24_Place__6 : ACode := .reg [A 7 (.mv (ci 0))]
  (.block 2 c_r24_Place__5 .nil)
def c_r24_Place__7 : ACode := .reg [A 12 (.mv (t 6)), A 13 (.bin .add (t 12) (ci 1)), A 6 (.mv (t 13))]
  .nil
def c_r24_Place__8 : ACode := .block 1 c_r24_Place__6 c_r24_Place__7
def c_r24_Place__9 : ACode := .reg [A 8 (.mv (t 6)), A 9 (.mv (t 0)), A 10 (.len (t 9)), A 11 (.bin .lss (t 8) (t 10))]
  (.cond (t 11) .nil (.exit 0) c_r24_Place__8)
-- loop c_r24_Place__9: carried [6] keep [0, 1]
def c_r24_Place__10 : ACode := .loop c_r24_Place__9
def c_r24_Place__11 : ACode := .reg [A 4 (.mv (ci (-1))), A 5 (.mv (ci (-1)))]
  .ret
def c_r24_Place : ACode := .reg [A 4 (.mv (ci 0)), A 5 (.mv (ci 0))]
  (.reg [A 6 (.mv (ci 0))]
  (.block 0 c_r24_Place__10 c_r24_Place__11))
theorem code_r24_Place : CodeIs Try.prog 24 2 c_r24_Place [ARes.tmp 4, ARes.tmp 5] :=
  ⟨fun args H Q hl h => ACall_of Try.func24 rfl (by kernel_rfl) (by rw [hl]; exact Nat.le_of_ble_eq_true rfl) (by kernel_rfl) (by kernel_rfl) h⟩
theorem call_r24_Place {a0 a1 : Value} {H : Heap} {Q : AEnd → Heap → Prop} (h : ∀ e, Wk Try.prog c_r24_Place (funP [ARes.tmp 4, ARes.tmp 5] Q) e [(0, a0), (1, a1)] H) : ACall Try.prog 24 [a0, a1] H Q := code_r24_Place.all _ _ _ rfl (wk_entry rfl h)
/-! ductus/tour.step -/
def c_tour_step__0 : ACode := .reg [A 14 (.mv (t 6)), A 6 (.mv (t 14)), A 7 (.mv (cb false))]
  .ret
def c_tour_step__1 : ACode := .reg [A 15 (.mv (t 0)), A 16 (.mv (t 2)), A 17 (.call 38 [t 15, Operand.func 39, t 16]), A 6 (.mv (t 17))]
  (.reg [A 18 (.mv (t 6)), A 19 (.mv (t 6)), A 20 (.bin .neq (t 19) (ci (-1))), A 6 (.mv (t 18)), A 7 (.mv (t 20))]
  .ret)
def c_tour_step : ACode := .reg [A 6 (.mv (ci 0)), A 7 (.mv (cb false))]
  (.reg [A 8 (.mv (t 0)), A 9 (.mv (t 1)), A 10 (.mv (t 2)), A 11 (.call 38 [t 8, t 9, t 10]), A 6 (.mv (t 11))]
  (.reg [A 12 (.mv (t 6)), A 13 (.bin .neq (t 12) (ci (-1)))]
  (.cond (t 13) c_tour_step__0 .nil c_tour_step__1)))
theorem code_tour_step : CodeIs Try.prog 25 3 c_tour_step [ARes.tmp 6, ARes.tmp 7] :=
  ⟨fun args H Q hl h => ACall_of Try.func25 rfl (by kernel_rfl) (by rw [hl]; exact Nat.le_of_ble_eq_true rfl) (by kernel_rfl) (by kernel_rfl) h⟩
theorem call_tour_step {a0 a1 a2 : Value} {H : Heap} {Q : AEnd → Heap → Prop} (h : ∀ e, Wk Try.prog c_tour_step (funP [ARes.tmp 6, ARes.tmp 7] Q) e [(0, a0), (1, a1), (2, a2)] H) : ACall Try.prog 25 [a0, a1, a2] H Q := code_tour_step.all _ _ _ rfl (wk_entry rfl h)
/-! ductus/tour.Next$1 -/
def c_tour_Next_1 : ACode := .reg [A 3 (.mv (cb false))]
  (.reg [A 4 (.ld none (t 1)), A 5 (.call 18 [t 4]), A 6 (.un .not (t 5)), A 7 (.mv (t 6)), G 8 7 false (.ld none (t 1)), G 9 7 false (.mv (t 0)), G 10 7 false (.call 27 [t 8, t 9]), G 11 7 false (.bin .lss (t 10) (ci 0)), A 12 (.pick (t 7) (cb true) (t 11)), A 3 (.mv (t 12))]
  .ret)
theorem code_tour_Next_1 : CodeIs Try.prog 26 2 c_tour_Next_1 [ARes.tmp 3] :=
  ⟨fun args H Q hl h => ACall_of Try.func26 rfl (by kernel_rfl) (by rw [hl]; exact Nat.le_of_ble_eq_true rfl) (by kernel_rfl) (by kernel_rfl) h⟩
theorem call_tour_Next_1 {a0 a1 : Value} {H : Heap} {Q : AEnd → Heap → Prop} (h : ∀ e, Wk Try.prog c_tour_Next_1 (funP [ARes.tmp 3] Q) e [(0, a0), (1, a1)] H) : ACall Try.prog 26 [a0, a1] H Q := code_tour_Next_1.all _ _ _ rfl (wk_entry rfl h)
/-! ductus/tour.compare -/
def c_tour_compare__0 : ACode := .reg [A 13 (.mv (t 5)), A 14 (.re (t 13)), A 15 (.bin .eql (t 14) (Operand.const (Value.float .f64 0))), A 16 (.mv (t 15)), G 17 16 true (.mv (t 5)), G 18 16 true (.im (t 17)), G 19 16 true (.bin .gtr (t 18) (Operand.const (Value.float .f64 0))), A 20 (.pick (t 16) (t 19) (cb false)), A 9 (.mv (t 20))]
  .nil
def c_tour_compare__1 : ACode := .reg [A 4 (.mv (ci (-1)))]
  .ret
def c_tour_compare__2 : ACode := .reg [A 4 (.mv (ci 0))]
  .ret
def c_tour_compare__3 : ACode := .reg [A 22 (.mv (t 5)), A 23 (.bin .eql (t 22) (Operand.const (Value.complex .f64 0 0))), A 21 (.mv (t 23))]
  (.cond (t 21) c_tour_compare__2 .nil .nil)
def c_tour_compare__4 : ACode := .cond (t 9) c_tour_compare__1 c_tour_compare__3 .nil
def c_tour_compare__5 : ACode := .reg [A 10 (.mv (t 5)), A 11 (.re (t 10)), A 12 (.bin .gtr (t 11) (Operand.const (Value.float .f64 0))), A 9 (.mv (t 12))]
  (.cond (t 9) .nil c_tour_compare__0 c_tour_compare__4)
def c_tour_compare__6 : ACode := .reg [A 4 (.mv (ci 1))]
  .ret
def c_tour_compare : ACode := .reg [A 4 (.mv (ci 0))]
  (.reg [A 6 (.mv (t 1)), A 7 (.mv (t 0)), A 8 (.bin .sub (t 6) (t 7)), A 5 (.mv (t 8))]
  (.block 0 c_tour_compare__5 c_tour_compare__6))
theorem code_tour_compare : CodeIs Try.prog 27 2 c_tour_compare [ARes.tmp 4] :=
  ⟨fun args H Q hl h => ACall_of Try.func27 rfl (by kernel_rfl) (by rw [hl]; exact Nat.le_of_ble_eq_true rfl) (by kernel_rfl) (by kernel_rfl) h⟩
theorem call_tour_compare {a0 a1 : Value} {H : Heap} {Q : AEnd → Heap → Prop} (h : ∀ e, Wk Try.prog c_tour_compare (funP [ARes.tmp 4] Q) e [(0, a0), (1, a1)] H) : ACall Try.prog 27 [a0, a1] H Q := code_tour_compare.all _ _ _ rfl (wk_entry rfl h)
/-! ductus/tour.Next$2 -/
def c_tour_Next_2 : ACode := .reg [A 4 (.mv (cb false))]
  (.reg [A 5 (.mv (t 0)), A 6 (.mv (t 1)), A 7 (.call 27 [t 5, t 6]), A 8 (.bin .lss (t 7) (ci 0)), A 4 (.mv (t 8))]
  .ret)
theorem code_tour_Next_2 : CodeIs Try.prog 28 2 c_tour_Next_2 [ARes.tmp 4] :=
  ⟨fun args H Q hl h => ACall_of Try.func28 rfl (by kernel_rfl) (by rw [hl]; exact Nat.le_of_ble_eq_true rfl) (by kernel_rfl) (by kernel_rfl) h⟩
theorem call_tour_Next_2 {a0 a1 : Value} {H : Heap} {Q : AEnd → Heap → Prop} (h : ∀ e, Wk Try.prog c_tour_Next_2 (funP [ARes.tmp 4] Q) e [(0, a0), (1, a1)] H) : ACall Try.prog 28 [a0, a1] H Q := code_tour_Next_2.all _ _ _ rfl (wk_entry rfl h)
/-! ductus/tour.Prev$1 -/
def c_tour_Prev_1 : ACode := .reg [A 3 (.mv (cb false))]
  (.reg [A 4 (.ld none (t 1)), A 5 (.call 18 [t 4]), A 6 (.un .not (t 5)), A 7 (.mv (t 6)), G 8 7 false (.mv (t 0)), G 9 7 false (.ld none (t 1)), G 10 7 false (.call 27 [t 8, t 9]), G 11 7 false (.bin .lss (t 10) (ci 0)), A 12 (.pick (t 7) (cb true) (t 11)), A 3 (.mv (t 12))]
  .ret)
theorem code_tour_Prev_1 : CodeIs Try.prog 29 2 c_tour_Prev_1 [ARes.tmp 3] :=
  ⟨fun args H Q hl h => ACall_of Try.func29 rfl (by kernel_rfl) (by rw [hl]; exact Nat.le_of_ble_eq_true rfl) (by kernel_rfl) (by kernel_rfl) h⟩
theorem call_tour_Prev_1 {a0 a1 : Value} {H : Heap} {Q : AEnd → Heap → Prop} (h : ∀ e, Wk Try.prog c_tour_Prev_1 (funP [ARes.tmp 3] Q) e [(0, a0), (1, a1)] H) : ACall Try.prog 29 [a0, a1] H Q := code_tour_Prev_1.all _ _ _ rfl (wk_entry rfl h)
/-! ductus/tour.Prev$2 -/
def c_tour_Prev_2 : ACode := .reg [A 4 (.mv (cb false))]
  (.reg [A 5 (.mv (t 0)), A 6 (.mv (t 1)), A 7 (.call 27 [t 5, t 6]), A 8 (.bin .geq (t 7) (ci 0)), A 4 (.mv (t 8))]
  .ret)
theorem code_tour_Prev_2 : CodeIs Try.prog 30 2 c_tour_Prev_2 [ARes.tmp 4] :=
  ⟨fun args H Q hl h => ACall_of Try.func30 rfl (by kernel_rfl) (by rw [hl]; exact Nat.le_of_ble_eq_true rfl) (by kernel_rfl) (by kernel_rfl) h⟩
theorem call_tour_Prev_2 {a0 a1 : Value} {H : Heap} {Q : AEnd → Heap → Prop} (h : ∀ e, Wk Try.prog c_tour_Prev_2 (funP [ARes.tmp 4] Q) e [(0, a0), (1, a1)] H) : ACall Try.prog 30 [a0, a1] H Q := code_tour_Prev_2.all _ _ _ rfl (wk_entry rfl h)
/-! ductus/tour.whole -/
def c_tour_whole : ACode := .reg [A 2 (.mv (cb false))]
  (.reg [A 3 (.mv (t 0)), A 4 (.bin .geq (t 3) (Operand.const (Value.float .f64 0))), A 5 (.mv (t 4)), G 6 5 true (.mv (t 0)), G 7 5 true (.bin .leq (t 6) (Operand.const (Value.float .f64 4697254411347427328))), A 8 (.pick (t 5) (t 7) (cb false)), A 9 (.mv (t 8)), G 10 9 true (.mv (t 0)), G 11 9 true (.call 55 [t 10]), G 12 9 true (.mv (t 0)), G 13 9 true (.bin .eql (t 11) (t 12)), A 14 (.pick (t 9) (t 13) (cb false)), A 2 (.mv (t 14))]
  .ret)
theorem code_tour_whole : CodeIs Try.prog 36 1 c_tour_whole [ARes.tmp 2] :=
  ⟨fun args H Q hl h => ACall_of Try.func36 rfl (by kernel_rfl) (by rw [hl]; exact Nat.le_of_ble_eq_true rfl) (by kernel_rfl) (by kernel_rfl) h⟩
theorem call_tour_whole {a0 : Value} {H : Heap} {Q : AEnd → Heap → Prop} (h : ∀ e, Wk Try.prog c_tour_whole (funP [ARes.tmp 2] Q) e [(0, a0)] H) : ACall Try.prog 36 [a0] H Q := code_tour_whole.all _ _ _ rfl (wk_entry rfl h)
/-! slices.Index[[]int,int] -/
def c_slices_Index_int_int__0 : ACode := .reg [A 17 (.mv (t 5)), A 4 (.mv (t 17))]
  .ret
def c_slices_Index_int_int__1 : ACode := .reg [A 10 (.mv (t 8)), A 5 (.mv (t 10))]
  (.reg [A 11 (.mv (t 1)), A 12 (.mv (t 0)), A 13 (.mv (t 5)), A 14 (.ia 1 (t 12) (t 13)), A 15 (.ld none (t 14)), A 16 (.bin .eql (t 11) (t 15))]
  (.cond (t 16) c_slices_Index_int_int__0 .nil .nil))
def c_slices_Index_int_int__2 : ACode := .reg [A 18 (.bin .add (t 8) (ci 1)), A 8 (.mv (t 18))]
  .nil
def c_slices_Index_int_int__3 : ACode := .block 1 c_slices_Index_int_int__1 c_slices_Index_int_int__2
def c_slices_Index_int_int__4 : ACode := .reg [A 9 (.bin .lss (t 8) (t 7))]
  (.cond (t 9) .nil (.exit 0) c_slices_Index_int_int__3)
-- loop c_slices_Index_int_int__4: carried [8] keep [0, 1, 7]
def c_slices_Index_int_int__5 : ACode := .loop c_slices_Index_int_int__4
def c_slices_Index_int_int__6 : ACode := .reg [A 4 (.mv (ci (-1)))]
  .ret
def c_slices_Index_int_int : ACode := .reg [A 4 (.mv (ci 0))]
  (.reg [A 6 (.mv (t 0)), A 7 (.len (t 6)), A 8 (.mv (ci 0))]
  (.block 0 c_slices_Index_int_int__5 c_slices_Index_int_int__6))
theorem code_slices_Index_int_int : CodeIs Try.prog 37 2 c_slices_Index_int_int [ARes.tmp 4] :=
  ⟨fun args H Q hl h => ACall_of Try.func37 rfl (by kernel_rfl) (by rw [hl]; exact Nat.le_of_ble_eq_true rfl) (by kernel_rfl) (by kernel_rfl) h⟩
theorem call_slices_Index_int_int {a0 a1 : Value} {H : Heap} {Q : AEnd → Heap → Prop} (h : ∀ e, Wk Try.prog c_slices_Index_int_int (funP [ARes.tmp 4] Q) e [(0, a0), (1, a1)] H) : ACall Try.prog 37 [a0, a1] H Q := code_slices_Index_int_int.all _ _ _ rfl (wk_entry rfl h)
/-! ductus/tour.best -/
def c_tour_best__0 : ACode := .reg [A 37 (.mv (t 8)), A 7 (.mv (t 37))]
  .nil
def c_tour_best__1 : ACode := .reg [A 14 (.mv (t 12)), A 15 (.ia 1 (t 10) (t 12)), A 16 (.ld none (t 15)), A 8 (.mv (t 14)), A 9 (.mv (t 16))]
  (.reg [A 17 (.mv (t 9)), A 18 (.call 18 [t 17]), A 19 (.mv (t 18)), G 20 19 true (.mv (t 1)), G 21 19 true (.mv (t 9)), G 22 19 true (.dyn (t 20) [t 21]), A 23 (.pick (t 19) (t 22) (cb false)), A 24 (.mv (t 23)), G 25 24 true (.mv (t 7)), G 26 24 true (.bin .eql (t 25) (ci (-1))), G 27 24 true (.mv (t 26)), G 28 27 false (.mv (t 2)), G 29 27 false (.mv (t 9)), G 30 27 false (.mv (t 0)), G 31 27 false (.mv (t 7)), G 32 27 false (.ia 1 (t 30) (t 31)), G 33 27 false (.ld none (t 32)), G 34 27 false (.dyn (t 28) [t 29, t 33]), G 35 24 true (.pick (t 27) (cb true) (t 34)), A 36 (.pick (t 24) (t 35) (cb false))]
  (.cond (t 36) c_tour_best__0 .nil .nil))
def c_tour_best__2 : ACode := .reg [A 38 (.bin .add (t 12) (ci 1)), A 12 (.mv (t 38))]
  .nil
def c_tour_best__3 : ACode := .block 1 c_tour_best__1 c_tour_best__2
def c_tour_best__4 : ACode := .reg [A 13 (.bin .lss (t 12) (t 11))]
  (.cond (t 13) .nil (.exit 0) c_tour_best__3)
-- loop c_tour_best__4: carried [7, 12] keep [0, 1, 2, 10, 11]
def c_tour_best__5 : ACode := .loop c_tour_best__4
def c_tour_best__6 : ACode := .reg [A 39 (.mv (t 7)), A 6 (.mv (t 39))]
  .ret
def c_tour_best : ACode := .reg [A 6 (.mv (ci 0))]
  (.reg [A 7 (.mv (ci (-1)))]
  (.reg [A 10 (.mv (t 0)), A 11 (.len (t 10)), A 12 (.mv (ci 0))]
  (.block 0 c_tour_best__5 c_tour_best__6)))
theorem code_tour_best : CodeIs Try.prog 38 3 c_tour_best [ARes.tmp 6] :=
  ⟨fun args H Q hl h => ACall_of Try.func38 rfl (by kernel_rfl) (by rw [hl]; exact Nat.le_of_ble_eq_true rfl) (by kernel_rfl) (by kernel_rfl) h⟩
theorem call_tour_best {a0 a1 a2 : Value} {H : Heap} {Q : AEnd → Heap → Prop} (h : ∀ e, Wk Try.prog c_tour_best (funP [ARes.tmp 6] Q) e [(0, a0), (1, a1), (2, a2)] H) : ACall Try.prog 38 [a0, a1, a2] H Q := code_tour_best.all _ _ _ rfl (wk_entry rfl h)
/-! ductus/tour.step$1 -/
def c_tour_step_1 : ACode := .reg [A 2 (.mv (cb false))]
  (.reg [A 2 (.mv (cb true))]
  .ret)
theorem code_tour_step_1 : CodeIs Try.prog 39 1 c_tour_step_1 [ARes.tmp 2] :=
  ⟨fun args H Q hl h => ACall_of Try.func39 rfl (by kernel_rfl) (by rw [hl]; exact Nat.le_of_ble_eq_true rfl) (by kernel_rfl) (by kernel_rfl) h⟩
theorem call_tour_step_1 {a0 : Value} {H : Heap} {Q : AEnd → Heap → Prop} (h : ∀ e, Wk Try.prog c_tour_step_1 (funP [ARes.tmp 2] Q) e [(0, a0)] H) : ACall Try.prog 39 [a0] H Q := code_tour_step_1.all _ _ _ rfl (wk_entry rfl h)
/-! math.Trunc -/
def c_math_Trunc__0 : ACode := .reg [A 3 (.mv (t 0)), A 4 (.nat 72 [t 3]), A 2 (.mv (t 4))]
  .ret
def c_math_Trunc__1 : ACode := .reg [A 5 (.mv (t 0)), A 6 (.call 73 [t 5]), A 2 (.mv (t 6))]
  .ret
def c_math_Trunc : ACode := .reg [A 2 (.mv (Operand.const (Value.float .f64 0)))]
  (.cond (cb true) c_math_Trunc__0 .nil c_math_Trunc__1)
theorem code_math_Trunc : CodeIs Try.prog 55 1 c_math_Trunc [ARes.tmp 2] :=
  ⟨fun args H Q hl h => ACall_of Try.func55 rfl (by kernel_rfl) (by rw [hl]; exact Nat.le_of_ble_eq_true rfl) (by kernel_rfl) (by kernel_rfl) h⟩
theorem call_math_Trunc {a0 : Value} {H : Heap} {Q : AEnd → Heap → Prop} (h : ∀ e, Wk Try.prog c_math_Trunc (funP [ARes.tmp 2] Q) e [(0, a0)] H) : ACall Try.prog 55 [a0] H Q := code_math_Trunc.all _ _ _ rfl (wk_entry rfl h)
def allCodes : List (Nat × Nat × ACode × List ARes) := [(3, 3, c_law25_TourKeys, [ARes.tmp 6]), (4, 2, c_law25_TourRound, [ARes.tmp 4]), (6, 0, c_law25_alive, [ARes.tmp 0]), (7, 1, c_r24_Great, [ARes.tmp 2]), (8, 2, c_r25_Same, [ARes.tmp 4]), (9, 3, c_tour_Keys, [ARes.tmp 6]), (10, 3, c_r25_Keys, [ARes.tmp 6]), (11, 3, c_tour_Key, [ARes.tmp 6]), (12, 3, c_r25_Key, [ARes.tmp 6]), (13, 2, c_tour_Next, [ARes.tmp 4, ARes.tmp 5]), (14, 2, c_tour_Prev, [ARes.tmp 4, ARes.tmp 5]), (18, 1, c_tour_Right, [ARes.tmp 2]), (20, 2, c_tour_Less, [ARes.tmp 4]), (21, 1, c_slices_Min_int_int, [ARes.tmp 2]), (22, 2, c_r25_first, [ARes.tmp 4, ARes.tmp 5]), (23, 2, c_frag_Place, [ARes.tmp 4, ARes.tmp 5]), (24, 2, c_r24_Place, [ARes.tmp 4, ARes.tmp 5]), (25, 3, c_tour_step, [ARes.tmp 6, ARes.tmp 7]), (26, 2, c_tour_Next_1, [ARes.tmp 3]), (27, 2, c_tour_compare, [ARes.tmp 4]), (28, 2, c_tour_Next_2, [ARes.tmp 4]), (29, 2, c_tour_Prev_1, [ARes.tmp 3]), (30, 2, c_tour_Prev_2, [ARes.tmp 4]), (36, 1, c_tour_whole, [ARes.tmp 2]), (37, 2, c_slices_Index_int_int, [ARes.tmp 4]), (38, 3, c_tour_best, [ARes.tmp 6]), (39, 1, c_tour_step_1, [ARes.tmp 2]), (55, 1, c_math_Trunc, [ARes.tmp 2])]
theorem allCodes_good : GoodCodes Try.prog (lkC allCodes) := goodC_cons code_law25_TourKeys <| goodC_cons code_law25_TourRound <| goodC_cons code_law25_alive <| goodC_cons code_r24_Great <| goodC_cons code_r25_Same <| goodC_cons code_tour_Keys <| goodC_cons code_r25_Keys <| goodC_cons code_tour_Key <| goodC_cons code_r25_Key <| goodC_cons code_tour_Next <| goodC_cons code_tour_Prev <| goodC_cons code_tour_Right <| goodC_cons code_tour_Less <| goodC_cons code_slices_Min_int_int <| goodC_cons code_r25_first <| goodC_cons code_frag_Place <| goodC_cons code_r24_Place <| goodC_cons code_tour_step <| goodC_cons code_tour_Next_1 <| goodC_cons code_tour_compare <| goodC_cons code_tour_Next_2 <| goodC_cons code_tour_Prev_1 <| goodC_cons code_tour_Prev_2 <| goodC_cons code_tour_whole <| goodC_cons code_slices_Index_int_int <| goodC_cons code_tour_best <| goodC_cons code_tour_step_1 <| goodC_cons code_math_Trunc <| goodC_nil
end Go.Proofs.Ytlfihcndchjgcaa
