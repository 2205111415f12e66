/- Own text of this session: Code. -/
import Derived.Test.YtlfihcndchjgcaaDoorAbC
import Derived.Test.YtlfihcndchjgcaaDoorProg
import Derived.KernelRfl
set_option linter.unusedVariables false
set_option linter.unusedSimpArgs false
namespace Go.Proofs.YtlfihcndchjgcaaDoor
open Go Go.Ab
/-! gosem.cut.init -/
def c_gosem_cut_init : ACode := .reg [A 0 (.call 1 [])]
  .nil
theorem call_gosem_cut_init {H : Heap} {Q : AEnd → Heap → Prop} (h : ∀ e, Wk Tryd.prog c_gosem_cut_init (funP [] Q) e [] H) : ACall Tryd.prog 2 [] H Q :=
  ACall_of Tryd.func2 rfl (by kernel_rfl) (Nat.le_of_ble_eq_true rfl) (by kernel_rfl) (by kernel_rfl) (wk_entry rfl h)
/-! ductus/ductuslaw05.BaseSkips -/
def c_law05_BaseSkips_0 : ACode := .reg [A 6 (.mv (cb false))]
  .ret
def c_law05_BaseSkips_1 : ACode := .reg [A 6 (.mv (cb true))]
  .ret
def c_law05_BaseSkips_2 : ACode := .reg [A 31 (.mv (t 7)), A 32 (.bin .add (t 31) (ci 1)), A 7 (.mv (t 32))]
  .nil
def c_law05_BaseSkips_3 : ACode := .reg [A 38 (.mv (t 7)), A 39 (.bin .sub (t 38) (ci 1)), A 7 (.mv (t 39))]
  .nil
def c_law05_BaseSkips_4 : ACode := .reg [A 6 (.mv (cb true))]
  .ret
def c_law05_BaseSkips_5 : ACode := .reg [A 40 (.mv (t 7)), A 41 (.bin .lss (t 40) (ci 0)), A 42 (.mv (t 41)), G 43 42 false (.mv (t 1)), G 44 42 false (.mv (t 8)), G 45 42 false (.ia 1 (t 43) (t 44)), G 46 42 false (.ld none (t 45)), G 47 42 false (.bin .eql (t 46) (ci 10)), A 48 (.pick (t 42) (cb true) (t 47))]
  (.cond (t 48) c_law05_BaseSkips_4 .nil .nil)
def c_law05_BaseSkips_6 : ACode := .reg [A 33 (.mv (t 1)), A 34 (.mv (t 8)), A 35 (.ia 1 (t 33) (t 34)), A 36 (.ld none (t 35)), A 37 (.bin .eql (t 36) (ci 22))]
  (.cond (t 37) c_law05_BaseSkips_3 .nil c_law05_BaseSkips_5)
def c_law05_BaseSkips_7 : ACode := .reg [A 26 (.mv (t 1)), A 27 (.mv (t 8)), A 28 (.ia 1 (t 26) (t 27)), A 29 (.ld none (t 28)), A 30 (.call 5 [t 29])]
  (.cond (t 30) c_law05_BaseSkips_2 .nil c_law05_BaseSkips_6)
def c_law05_BaseSkips_8 : ACode := .reg [A 24 (.mv (t 8)), A 25 (.bin .add (t 24) (ci 1)), A 8 (.mv (t 25))]
  .nil
def c_law05_BaseSkips_9 : ACode := .block 1 c_law05_BaseSkips_7 c_law05_BaseSkips_8
def c_law05_BaseSkips_10 : ACode := .reg [A 20 (.mv (t 8)), A 21 (.mv (t 1)), A 22 (.len (t 21)), A 23 (.bin .lss (t 20) (t 22))]
  (.cond (t 23) .nil (.exit 0) c_law05_BaseSkips_9)
-- loop c_law05_BaseSkips_10: carried [7, 8] keep [0, 1, 2]
def c_law05_BaseSkips_11 : ACode := .loop c_law05_BaseSkips_10
def c_law05_BaseSkips_12 : ACode := .reg [A 6 (.mv (cb true))]
  .ret
def c_law05_BaseSkips_13 : ACode := .reg [A 51 (.bs 1 1 [.int .i64 0] [(0, 1, ci 21)]), A 52 (.mv (t 1)), A 53 (.app 1 8 [.int .i64 0] (t 51) (t 52)), A 54 (.bs 1 1 [.int .i64 0] [(0, 1, ci 22)]), A 55 (.app 1 8 [.int .i64 0] (t 53) (t 54)), A 9 (.mv (t 55))]
  (.reg [A 56 (.mv (t 9)), A 57 (.mv (t 0)), A 58 (.app 1 8 [.int .i64 0] (t 56) (t 57)), A 59 (.mv (t 2)), A 60 (.call 6 [t 58, t 59]), A 61 (.mv (t 0)), A 62 (.mv (t 2)), A 63 (.call 6 [t 61, t 62]), A 64 (.bin .eql (t 60) (t 63)), A 65 (.mv (t 64)), G 66 65 true (.mv (t 9)), G 67 65 true (.call 7 [t 66, ci 0]), G 68 65 true (.mv (t 1)), G 69 65 true (.call 6 [t 68, ci 0]), G 70 65 true (.bin .eql (t 67) (t 69)), A 71 (.pick (t 65) (t 70) (cb false)), A 6 (.mv (t 71))]
  .ret)
def c_law05_BaseSkips_14 : ACode := .reg [A 49 (.mv (t 7)), A 50 (.bin .neq (t 49) (ci 0))]
  (.cond (t 50) c_law05_BaseSkips_12 .nil c_law05_BaseSkips_13)
def c_law05_BaseSkips_15 : ACode := .reg [A 7 (.mv (ci 0))]
  (.reg [A 8 (.mv (ci 0))]
  (.block 0 c_law05_BaseSkips_11 c_law05_BaseSkips_14))
def c_law05_BaseSkips_16 : ACode := .reg [A 12 (.mv (t 0)), A 13 (.len (t 12)), A 14 (.bin .gtr (t 13) (ci 300)), A 15 (.mv (t 14)), G 16 15 false (.mv (t 1)), G 17 15 false (.len (t 16)), G 18 15 false (.bin .gtr (t 17) (ci 300)), A 19 (.pick (t 15) (cb true) (t 18))]
  (.cond (t 19) c_law05_BaseSkips_1 .nil c_law05_BaseSkips_15)
def c_law05_BaseSkips : ACode := .reg [A 6 (.mv (cb false))]
  (.reg [A 10 (.call 4 []), A 11 (.un .not (t 10))]
  (.cond (t 11) c_law05_BaseSkips_0 .nil c_law05_BaseSkips_16))
theorem call_law05_BaseSkips {a0 a1 a2 : Value} {H : Heap} {Q : AEnd → Heap → Prop} (h : ∀ e, Wk Tryd.prog c_law05_BaseSkips (funP [ARes.tmp 6] Q) e [(0, a0), (1, a1), (2, a2)] H) : ACall Tryd.prog 3 [a0, a1, a2] H Q :=
  ACall_of Tryd.func3 rfl (by kernel_rfl) (Nat.le_of_ble_eq_true rfl) (by kernel_rfl) (by kernel_rfl) (wk_entry rfl h)
/-! ductus/ductuslaw05.alive -/
def c_law05_alive : ACode := .reg [A 0 (.mv (cb false))]
  (.reg [A 2 (.bs 7 1 [.int .i64 0] [(0, 1, ci 20), (1, 1, ci 1), (2, 1, ci 21), (3, 1, ci 2), (4, 1, ci 22), (5, 1, ci 22), (6, 1, ci 0)]), A 1 (.mv (t 2))]
  (.reg [A 3 (.mv (t 1)), A 4 (.call 9 [t 3]), A 5 (.bs 7 1 [.int .i64 0] [(0, 1, ci 5), (1, 1, ci (-1)), (2, 1, ci 4), (3, 1, ci (-1)), (4, 1, ci 2), (5, 1, ci 0), (6, 1, ci (-1))]), A 6 (.call 8 [t 4, t 5]), A 7 (.mv (t 6)), G 8 7 true (.mv (t 1)), G 9 7 true (.call 6 [t 8, ci 0]), G 10 7 true (.bin .eql (t 9) (ci 0)), A 11 (.pick (t 7) (t 10) (cb false)), A 12 (.mv (t 11)), G 13 12 true (.mv (t 1)), G 14 12 true (.call 10 [t 13, ci 1, ci 7]), G 15 12 true (.bin .eql (t 14) (ci 1)), A 16 (.pick (t 12) (t 15) (cb false)), A 17 (.mv (t 16)), G 18 17 true (.mv (t 1)), G 19 17 true (.call 7 [t 18, ci 2]), G 20 17 true (.bin .eql (t 19) (ci 1)), A 21 (.pick (t 17) (t 20) (cb false)), A 22 (.mv (t 21)), G 23 22 true (.mv (t 1)), G 24 22 true (.call 7 [t 23, ci 1]), G 25 22 true (.bin .eql (t 24) (ci (-1))), A 26 (.pick (t 22) (t 25) (cb false)), A 27 (.mv (t 26)), G 28 27 true (.mv (t 1)), G 29 27 true (.call 6 [t 28, ci 2]), G 30 27 true (.bin .eql (t 29) (ci 1)), A 31 (.pick (t 27) (t 30) (cb false)), A 32 (.mv (t 31)), G 33 32 true (.bs 2 1 [.int .i64 0] [(0, 1, ci 10), (1, 1, ci 1)]), G 34 32 true (.call 10 [t 33, ci 0, ci 2]), G 35 32 true (.bin .eql (t 34) (ci (-1))), A 36 (.pick (t 32) (t 35) (cb false)), A 0 (.mv (t 36))]
  .ret))
theorem call_law05_alive {H : Heap} {Q : AEnd → Heap → Prop} (h : ∀ e, Wk Tryd.prog c_law05_alive (funP [ARes.tmp 0] Q) e [] H) : ACall Tryd.prog 4 [] H Q :=
  ACall_of Tryd.func4 rfl (by kernel_rfl) (Nat.le_of_ble_eq_true rfl) (by kernel_rfl) (by kernel_rfl) (wk_entry rfl h)
/-! ductus/ductusref02.Opens -/
def c_r02_Opens : ACode := .reg [A 2 (.mv (cb false))]
  (.reg [A 3 (.mv (t 0)), A 4 (.bin .eql (t 3) (ci 19)), A 5 (.mv (t 4)), G 6 5 false (.mv (t 0)), G 7 5 false (.bin .eql (t 6) (ci 20)), A 8 (.pick (t 5) (cb true) (t 7)), A 9 (.mv (t 8)), G 10 9 false (.mv (t 0)), G 11 9 false (.bin .eql (t 10) (ci 21)), A 12 (.pick (t 9) (cb true) (t 11)), A 2 (.mv (t 12))]
  .ret)
theorem call_r02_Opens {a0 : Value} {H : Heap} {Q : AEnd → Heap → Prop} (h : ∀ e, Wk Tryd.prog c_r02_Opens (funP [ARes.tmp 2] Q) e [(0, a0)] H) : ACall Tryd.prog 5 [a0] H Q :=
  ACall_of Tryd.func5 rfl (by kernel_rfl) (Nat.le_of_ble_eq_true rfl) (by kernel_rfl) (by kernel_rfl) (wk_entry rfl h)
/-! ductus/base.Level -/
def c_base_Level_0 : ACode := .reg [A 11 (.mv (t 1)), A 12 (.bin .sub (t 11) (ci 1)), A 4 (.mv (t 12))]
  .ret
def c_base_Level_1 : ACode := .reg [A 13 (.mv (t 0)), A 14 (.mv (t 0)), A 15 (.len (t 14)), A 16 (.call 10 [t 13, ci 0, t 15]), A 17 (.mx [ci 0, t 16]), A 4 (.mv (t 17))]
  .ret
def c_base_Level : ACode := .reg [A 4 (.mv (ci 0))]
  (.reg [A 5 (.mv (t 1)), A 6 (.bin .eql (t 5) (ci 1)), A 7 (.mv (t 6)), G 8 7 false (.mv (t 1)), G 9 7 false (.bin .eql (t 8) (ci 2)), A 10 (.pick (t 7) (cb true) (t 9))]
  (.cond (t 10) c_base_Level_0 .nil c_base_Level_1))
theorem call_base_Level {a0 a1 : Value} {H : Heap} {Q : AEnd → Heap → Prop} (h : ∀ e, Wk Tryd.prog c_base_Level (funP [ARes.tmp 4] Q) e [(0, a0), (1, a1)] H) : ACall Tryd.prog 6 [a0, a1] H Q :=
  ACall_of Tryd.func6 rfl (by kernel_rfl) (Nat.le_of_ble_eq_true rfl) (by kernel_rfl) (by kernel_rfl) (wk_entry rfl h)
/-! ductus/base.Isolate -/
def c_base_Isolate_0 : ACode := .reg [A 4 (.mv (ci (-1)))]
  .ret
def c_base_Isolate_1 : ACode := .reg [A 28 (.mv (t 0)), A 29 (.mv (t 1)), A 30 (.ia 1 (t 28) (t 29)), A 31 (.ld none (t 30)), A 32 (.bin .sub (t 31) (ci 19)), A 4 (.mv (t 32))]
  .ret
def c_base_Isolate_2 : ACode := .reg [A 41 (.mv (t 0)), A 42 (.len (t 41)), A 6 (.mv (t 42))]
  .nil
def c_base_Isolate_3 : ACode := .reg [A 43 (.mv (t 0)), A 44 (.mv (t 5)), A 45 (.mv (t 1)), A 46 (.bin .add (t 45) (ci 1)), A 47 (.mv (t 6)), A 48 (.call 12 [t 43, t 44, t 46, t 47]), A 49 (.mx [ci 0, t 48]), A 4 (.mv (t 49))]
  .ret
def c_base_Isolate_4 : ACode := .reg [A 33 (.mv (t 0)), A 34 (.call 9 [t 33]), A 5 (.mv (t 34))]
  (.reg [A 35 (.mv (t 5)), A 36 (.mv (t 1)), A 37 (.ia 1 (t 35) (t 36)), A 38 (.ld none (t 37)), A 6 (.mv (t 38))]
  (.reg [A 39 (.mv (t 6)), A 40 (.bin .eql (t 39) (ci (-1)))]
  (.cond (t 40) c_base_Isolate_2 .nil c_base_Isolate_3)))
def c_base_Isolate_5 : ACode := .reg [A 23 (.mv (t 0)), A 24 (.mv (t 1)), A 25 (.ia 1 (t 23) (t 24)), A 26 (.ld none (t 25)), A 27 (.bin .neq (t 26) (ci 21))]
  (.cond (t 27) c_base_Isolate_1 .nil c_base_Isolate_4)
def c_base_Isolate : ACode := .reg [A 4 (.mv (ci 0))]
  (.reg [A 7 (.mv (t 1)), A 8 (.bin .lss (t 7) (ci 0)), A 9 (.mv (t 8)), G 10 9 false (.mv (t 1)), G 11 9 false (.mv (t 0)), G 12 9 false (.len (t 11)), G 13 9 false (.bin .geq (t 10) (t 12)), A 14 (.pick (t 9) (cb true) (t 13)), A 15 (.mv (t 14)), G 16 15 false (.mv (t 0)), G 17 15 false (.mv (t 1)), G 18 15 false (.ia 1 (t 16) (t 17)), G 19 15 false (.ld none (t 18)), G 20 15 false (.call 11 [t 19]), G 21 15 false (.un .not (t 20)), A 22 (.pick (t 15) (cb true) (t 21))]
  (.cond (t 22) c_base_Isolate_0 .nil c_base_Isolate_5))
theorem call_base_Isolate {a0 a1 : Value} {H : Heap} {Q : AEnd → Heap → Prop} (h : ∀ e, Wk Tryd.prog c_base_Isolate (funP [ARes.tmp 4] Q) e [(0, a0), (1, a1)] H) : ACall Tryd.prog 7 [a0, a1] H Q :=
  ACall_of Tryd.func7 rfl (by kernel_rfl) (Nat.le_of_ble_eq_true rfl) (by kernel_rfl) (by kernel_rfl) (wk_entry rfl h)
/-! ductus/ductusref01.Ints -/
def c_r01_Ints_0 : ACode := .reg [A 4 (.mv (cb false))]
  .ret
def c_r01_Ints_1 : ACode := .reg [A 4 (.mv (cb false))]
  .ret
def c_r01_Ints_2 : ACode := .reg [A 17 (.mv (t 0)), A 18 (.mv (t 5)), A 19 (.ia 1 (t 17) (t 18)), A 20 (.ld none (t 19)), A 21 (.mv (t 1)), A 22 (.mv (t 5)), A 23 (.ia 1 (t 21) (t 22)), A 24 (.ld none (t 23)), A 25 (.bin .neq (t 20) (t 24))]
  (.cond (t 25) c_r01_Ints_1 .nil .nil)
def c_r01_Ints_3 : ACode := .reg [A 15 (.mv (t 5)), A 16 (.bin .add (t 15) (ci 1)), A 5 (.mv (t 16))]
  .nil
def c_r01_Ints_4 : ACode := .block 1 c_r01_Ints_2 c_r01_Ints_3
def c_r01_Ints_5 : ACode := .reg [A 11 (.mv (t 5)), A 12 (.mv (t 0)), A 13 (.len (t 12)), A 14 (.bin .lss (t 11) (t 13))]
  (.cond (t 14) .nil (.exit 0) c_r01_Ints_4)
-- loop c_r01_Ints_5: carried [5] keep [0, 1]
def c_r01_Ints_6 : ACode := .loop c_r01_Ints_5
def c_r01_Ints_7 : ACode := .reg [A 4 (.mv (cb true))]
  .ret
def c_r01_Ints_8 : ACode := .reg [A 5 (.mv (ci 0))]
  (.block 0 c_r01_Ints_6 c_r01_Ints_7)
def c_r01_Ints : ACode := .reg [A 4 (.mv (cb false))]
  (.reg [A 6 (.mv (t 0)), A 7 (.len (t 6)), A 8 (.mv (t 1)), A 9 (.len (t 8)), A 10 (.bin .neq (t 7) (t 9))]
  (.cond (t 10) c_r01_Ints_0 .nil c_r01_Ints_8))
theorem call_r01_Ints {a0 a1 : Value} {H : Heap} {Q : AEnd → Heap → Prop} (h : ∀ e, Wk Tryd.prog c_r01_Ints (funP [ARes.tmp 4] Q) e [(0, a0), (1, a1)] H) : ACall Tryd.prog 8 [a0, a1] H Q :=
  ACall_of Tryd.func8 rfl (by kernel_rfl) (Nat.le_of_ble_eq_true rfl) (by kernel_rfl) (by kernel_rfl) (wk_entry rfl h)
/-! ductus/base.Match -/
def c_base_Match_0 : ACode := .reg [A 4 (.mv (Operand.const (Value.slice none 0 0)))]
  .nil
def c_base_Match_1 : ACode := .reg [A 27 (.mv (t 4)), A 28 (.mv (t 5)), A 29 (.bs 1 1 [.int .i64 0] [(0, 1, t 28)]), A 30 (.app 1 8 [.int .i64 0] (t 27) (t 29)), A 4 (.mv (t 30))]
  .nil
def c_base_Match_2 : ACode := .reg [A 39 (.mv (t 4)), A 40 (.mv (t 4)), A 41 (.len (t 40)), A 42 (.bin .sub (t 41) (ci 1)), A 43 (.ia 1 (t 39) (t 42)), A 44 (.ld none (t 43)), A 7 (.mv (t 44))]
  (.reg [A 45 (.mv (t 4)), A 46 (.mv (t 4)), A 47 (.len (t 46)), A 48 (.bin .sub (t 47) (ci 1)), A 49 (.sl 1 (t 45) none (some (t 48)) none), A 4 (.mv (t 49))]
  (.reg [A 50 (.mv (t 3)), A 51 (.mv (t 5)), A 52 (.mv (t 3)), A 53 (.mv (t 7)), A 54 (.mv (t 7)), A 55 (.mv (t 5)), A 56 (.ia 1 (t 50) (t 51)), S (.st 1 (t 56) (t 54)), A 57 (.ia 1 (t 52) (t 53)), S (.st 1 (t 57) (t 55))]
  .nil))
def c_base_Match_3 : ACode := .reg [A 32 (.mv (t 6)), A 33 (.bin .eql (t 32) (ci 22)), A 34 (.mv (t 33)), G 35 34 true (.mv (t 4)), G 36 34 true (.len (t 35)), G 37 34 true (.bin .gtr (t 36) (ci 0)), A 38 (.pick (t 34) (t 37) (cb false)), A 31 (.mv (t 38))]
  (.cond (t 31) c_base_Match_2 .nil .nil)
def c_base_Match_4 : ACode := .reg [A 25 (.mv (t 6)), A 26 (.call 11 [t 25]), A 24 (.mv (t 26))]
  (.cond (t 24) c_base_Match_1 c_base_Match_3 .nil)
def c_base_Match_5 : ACode := .reg [A 22 (.mv (t 6)), A 23 (.bin .eql (t 22) (ci 10)), A 21 (.mv (t 23))]
  (.cond (t 21) c_base_Match_0 c_base_Match_4 .nil)
def c_base_Match_6 : ACode := .reg [A 15 (.mv (t 13)), A 16 (.ia 1 (t 11) (t 13)), A 17 (.ld none (t 16)), A 5 (.mv (t 15)), A 6 (.mv (t 17))]
  (.reg [A 18 (.mv (t 3)), A 19 (.mv (t 5)), A 20 (.ia 1 (t 18) (t 19)), S (.st 1 (t 20) (ci (-1)))]
  (.block 2 c_base_Match_5 .nil))
def c_base_Match_7 : ACode := .reg [A 58 (.bin .add (t 13) (ci 1)), A 13 (.mv (t 58))]
  .nil
def c_base_Match_8 : ACode := .block 1 c_base_Match_6 c_base_Match_7
def c_base_Match_9 : ACode := .reg [A 14 (.bin .lss (t 13) (t 12))]
  (.cond (t 14) .nil (.exit 0) c_base_Match_8)
-- loop c_base_Match_9: carried [4, 13] keep [3, 11, 12]
def c_base_Match_10 : ACode := .loop c_base_Match_9
def c_base_Match_11 : ACode := .reg [A 59 (.mv (t 3)), A 2 (.mv (t 59))]
  .ret
def c_base_Match : ACode := .reg [A 2 (.mv (Operand.const (Value.slice none 0 0)))]
  (.reg [A 8 (.mv (t 0)), A 9 (.len (t 8)), A 10 (.ms 1 8 [.int .i64 0] (t 9) (t 9)), A 3 (.mv (t 10))]
  (.reg [A 4 (.mv (Operand.const (Value.slice none 0 0)))]
  (.reg [A 11 (.mv (t 0)), A 12 (.len (t 11)), A 13 (.mv (ci 0))]
  (.block 0 c_base_Match_10 c_base_Match_11))))
theorem call_base_Match {a0 : Value} {H : Heap} {Q : AEnd → Heap → Prop} (h : ∀ e, Wk Tryd.prog c_base_Match (funP [ARes.tmp 2] Q) e [(0, a0)] H) : ACall Tryd.prog 9 [a0] H Q :=
  ACall_of Tryd.func9 rfl (by kernel_rfl) (Nat.le_of_ble_eq_true rfl) (by kernel_rfl) (by kernel_rfl) (wk_entry rfl h)
/-! ductus/base.First -/
def c_base_First : ACode := .reg [A 6 (.mv (ci 0))]
  (.reg [A 7 (.mv (t 0)), A 8 (.mv (t 0)), A 9 (.call 9 [t 8]), A 10 (.mv (t 1)), A 11 (.mv (t 2)), A 12 (.call 12 [t 7, t 9, t 10, t 11]), A 6 (.mv (t 12))]
  .ret)
theorem call_base_First {a0 a1 a2 : Value} {H : Heap} {Q : AEnd → Heap → Prop} (h : ∀ e, Wk Tryd.prog c_base_First (funP [ARes.tmp 6] Q) e [(0, a0), (1, a1), (2, a2)] H) : ACall Tryd.prog 10 [a0, a1, a2] H Q :=
  ACall_of Tryd.func10 rfl (by kernel_rfl) (Nat.le_of_ble_eq_true rfl) (by kernel_rfl) (by kernel_rfl) (wk_entry rfl h)
/-! ductus/class.Opens -/
def c_class_Opens : ACode := .reg [A 2 (.mv (cb false))]
  (.reg [A 3 (.mv (t 0)), A 4 (.bs 3 1 [.int .i64 0] [(0, 1, ci 19), (1, 1, ci 20), (2, 1, ci 21)]), A 5 (.call 14 [t 4]), A 6 (.call 13 [t 3, t 5]), A 2 (.mv (t 6))]
  .ret)
theorem call_class_Opens {a0 : Value} {H : Heap} {Q : AEnd → Heap → Prop} (h : ∀ e, Wk Tryd.prog c_class_Opens (funP [ARes.tmp 2] Q) e [(0, a0)] H) : ACall Tryd.prog 11 [a0] H Q :=
  ACall_of Tryd.func11 rfl (by kernel_rfl) (Nat.le_of_ble_eq_true rfl) (by kernel_rfl) (by kernel_rfl) (wk_entry rfl h)
/-! ductus/base.first -/
def c_base_first_0 : ACode := .reg [A 8 (.mv (ci (-1)))]
  .ret
def c_base_first_1 : ACode := .reg [A 34 (.mv (t 1)), A 35 (.mv (t 9)), A 36 (.ia 1 (t 34) (t 35)), A 37 (.ld none (t 36)), A 9 (.mv (t 37))]
  (.reg [A 38 (.mv (t 9)), A 39 (.bin .eql (t 38) (ci (-1)))]
  (.cond (t 39) c_base_first_0 .nil (.exit 1)))
def c_base_first_2 : ACode := .reg [A 47 (.mv (t 10)), A 8 (.mv (t 47))]
  .ret
def c_base_first_3 : ACode := .reg [A 40 (.mv (t 0)), A 41 (.mv (t 9)), A 42 (.ia 1 (t 40) (t 41)), A 43 (.ld none (t 42)), A 44 (.call 15 [t 43]), A 10 (.mv (t 44))]
  (.reg [A 45 (.mv (t 10)), A 46 (.bin .neq (t 45) (ci (-1)))]
  (.cond (t 46) c_base_first_2 .nil .nil))
def c_base_first_4 : ACode := .reg [A 29 (.mv (t 0)), A 30 (.mv (t 9)), A 31 (.ia 1 (t 29) (t 30)), A 32 (.ld none (t 31)), A 33 (.call 11 [t 32])]
  (.cond (t 33) c_base_first_1 .nil c_base_first_3)
def c_base_first_5 : ACode := .reg [A 27 (.mv (t 9)), A 28 (.bin .add (t 27) (ci 1)), A 9 (.mv (t 28))]
  .nil
def c_base_first_6 : ACode := .block 1 c_base_first_4 c_base_first_5
def c_base_first_7 : ACode := .reg [A 17 (.mv (t 9)), A 18 (.mv (t 3)), A 19 (.bin .lss (t 17) (t 18)), A 20 (.mv (t 19)), G 21 20 true (.mv (t 0)), G 22 20 true (.mv (t 9)), G 23 20 true (.ia 1 (t 21) (t 22)), G 24 20 true (.ld none (t 23)), G 25 20 true (.bin .neq (t 24) (ci 10)), A 26 (.pick (t 20) (t 25) (cb false))]
  (.cond (t 26) .nil (.exit 0) c_base_first_6)
-- loop c_base_first_7: carried [9] keep [0, 1, 3]
def c_base_first_8 : ACode := .loop c_base_first_7
def c_base_first_9 : ACode := .reg [A 8 (.mv (ci (-1)))]
  .ret
def c_base_first : ACode := .reg [A 8 (.mv (ci 0))]
  (.reg [A 11 (.mv (t 3)), A 12 (.mv (t 0)), A 13 (.len (t 12)), A 14 (.mn [t 11, t 13]), A 3 (.mv (t 14))]
  (.reg [A 15 (.mv (t 2)), A 16 (.mx [ci 0, t 15]), A 9 (.mv (t 16))]
  (.block 0 c_base_first_8 c_base_first_9)))
theorem call_base_first {a0 a1 a2 a3 : Value} {H : Heap} {Q : AEnd → Heap → Prop} (h : ∀ e, Wk Tryd.prog c_base_first (funP [ARes.tmp 8] Q) e [(0, a0), (1, a1), (2, a2), (3, a3)] H) : ACall Tryd.prog 12 [a0, a1, a2, a3] H Q :=
  ACall_of Tryd.func12 rfl (by kernel_rfl) (Nat.le_of_ble_eq_true rfl) (by kernel_rfl) (by kernel_rfl) (wk_entry rfl h)
/-! ductus/class.in -/
def c_class_in : ACode := .reg [A 4 (.mv (cb false))]
  (.reg [A 5 (.mv (t 0)), A 6 (.bin .geq (t 5) (ci 0)), A 7 (.mv (t 6)), G 8 7 true (.mv (t 0)), G 9 7 true (.bin .leq (t 8) (ci 22)), A 10 (.pick (t 7) (t 9) (cb false)), A 11 (.mv (t 10)), G 12 11 true (.mv (t 1)), G 13 11 true (.mv (t 0)), G 14 11 true (.bin .shr (t 12) (t 13)), G 15 11 true (.bin .and (t 14) (Operand.const (.int .u64 1))), G 16 11 true (.bin .eql (t 15) (Operand.const (.int .u64 1))), A 17 (.pick (t 11) (t 16) (cb false)), A 4 (.mv (t 17))]
  .ret)
theorem call_class_in {a0 a1 : Value} {H : Heap} {Q : AEnd → Heap → Prop} (h : ∀ e, Wk Tryd.prog c_class_in (funP [ARes.tmp 4] Q) e [(0, a0), (1, a1)] H) : ACall Tryd.prog 13 [a0, a1] H Q :=
  ACall_of Tryd.func13 rfl (by kernel_rfl) (Nat.le_of_ble_eq_true rfl) (by kernel_rfl) (by kernel_rfl) (wk_entry rfl h)
/-! ductus/class.set -/
def c_class_set_0 : ACode := .reg [A 9 (.ia 1 (t 5) (t 7)), A 10 (.ld none (t 9)), A 4 (.mv (t 10))]
  (.reg [A 11 (.mv (t 2)), A 12 (.mv (t 4)), A 13 (.bin .shl (Operand.const (.int .u64 1)) (t 12)), A 14 (.bin .or (t 11) (t 13)), A 2 (.mv (t 14))]
  .nil)
def c_class_set_1 : ACode := .reg [A 15 (.bin .add (t 7) (ci 1)), A 7 (.mv (t 15))]
  .nil
def c_class_set_2 : ACode := .block 1 c_class_set_0 c_class_set_1
def c_class_set_3 : ACode := .reg [A 8 (.bin .lss (t 7) (t 6))]
  (.cond (t 8) .nil (.exit 0) c_class_set_2)
-- loop c_class_set_3: carried [2, 7] keep [5, 6]
def c_class_set_4 : ACode := .loop c_class_set_3
def c_class_set_5 : ACode := .reg [A 16 (.mv (t 2)), A 2 (.mv (t 16))]
  .ret
def c_class_set : ACode := .reg [A 2 (.mv (Operand.const (.int .u64 0)))]
  (.reg [A 5 (.mv (t 0)), A 6 (.len (t 5)), A 7 (.mv (ci 0))]
  (.block 0 c_class_set_4 c_class_set_5))
theorem call_class_set {a0 : Value} {H : Heap} {Q : AEnd → Heap → Prop} (h : ∀ e, Wk Tryd.prog c_class_set (funP [ARes.tmp 2] Q) e [(0, a0)] H) : ACall Tryd.prog 14 [a0] H Q :=
  ACall_of Tryd.func14 rfl (by kernel_rfl) (Nat.le_of_ble_eq_true rfl) (by kernel_rfl) (by kernel_rfl) (wk_entry rfl h)
/-! ductus/base.strong -/
def c_base_strong_0 : ACode := .reg [A 2 (.mv (ci 1))]
  .ret
def c_base_strong_1 : ACode := .reg [A 2 (.mv (ci 0))]
  .ret
def c_base_strong_2 : ACode := .reg [A 11 (.mv (t 0)), A 12 (.bin .eql (t 11) (ci 0)), A 13 (.mv (t 12)), G 14 13 false (.mv (t 0)), G 15 13 false (.call 16 [t 14]), G 16 13 false (.bin .eql (t 15) (cs [])), A 17 (.pick (t 13) (cb true) (t 16)), A 10 (.mv (t 17))]
  (.cond (t 10) c_base_strong_1 .nil .nil)
def c_base_strong_3 : ACode := .reg [A 4 (.mv (t 0)), A 5 (.bin .eql (t 4) (ci 1)), A 6 (.mv (t 5)), G 7 6 false (.mv (t 0)), G 8 6 false (.bin .eql (t 7) (ci 2)), A 9 (.pick (t 6) (cb true) (t 8)), A 3 (.mv (t 9))]
  (.cond (t 3) c_base_strong_0 c_base_strong_2 .nil)
def c_base_strong_4 : ACode := .reg [A 2 (.mv (ci (-1)))]
  .ret
def c_base_strong : ACode := .reg [A 2 (.mv (ci 0))]
  (.block 0 c_base_strong_3 c_base_strong_4)
theorem call_base_strong {a0 : Value} {H : Heap} {Q : AEnd → Heap → Prop} (h : ∀ e, Wk Tryd.prog c_base_strong (funP [ARes.tmp 2] Q) e [(0, a0)] H) : ACall Tryd.prog 15 [a0] H Q :=
  ACall_of Tryd.func15 rfl (by kernel_rfl) (Nat.le_of_ble_eq_true rfl) (by kernel_rfl) (by kernel_rfl) (wk_entry rfl h)
/-! ductus/class.Word -/
def c_class_Word_0 : ACode := .reg [A 2 (.mv (cs []))]
  .ret
def c_class_Word_1 : ACode := .reg [A 9 (.mv (t 0)), A 10 (.iaA 23 1 (Operand.global 0) (t 9)), A 11 (.ld none (t 10)), A 2 (.mv (t 11))]
  .ret
def c_class_Word : ACode := .reg [A 2 (.mv (cs []))]
  (.reg [A 3 (.mv (t 0)), A 4 (.bin .lss (t 3) (ci 0)), A 5 (.mv (t 4)), G 6 5 false (.mv (t 0)), G 7 5 false (.bin .geq (t 6) (ci 23)), A 8 (.pick (t 5) (cb true) (t 7))]
  (.cond (t 8) c_class_Word_0 .nil c_class_Word_1))
theorem call_class_Word {a0 : Value} {H : Heap} {Q : AEnd → Heap → Prop} (h : ∀ e, Wk Tryd.prog c_class_Word (funP [ARes.tmp 2] Q) e [(0, a0)] H) : ACall Tryd.prog 16 [a0] H Q :=
  ACall_of Tryd.func16 rfl (by kernel_rfl) (Nat.le_of_ble_eq_true rfl) (by kernel_rfl) (by kernel_rfl) (wk_entry rfl h)
end Go.Proofs.YtlfihcndchjgcaaDoor
