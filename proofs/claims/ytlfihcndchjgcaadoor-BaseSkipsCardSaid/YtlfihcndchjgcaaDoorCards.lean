/-
  DERIVED. GIVEN WITH THE SEED: THE CARDS: each row of YtlfihcndchjgcaaDoorRows.lean that lists a variable, with what it lists TIED to the program's text (the seventh form; the later family's looks); each row that meets fmt, with fmt's text TOLD by the authors' own Lean function (tested against real Go, not proved from fmt's source: count such statements apart). THE CARD IS WHAT COUNTS. Prove the row's statement (the work); the ties are given (YtlfihcndchjgcaaDoorTie.lean); close each card by the builder's one call (the guide's Derived/Test/ToyasCard.lean, 'card_holds'). Laid BY PROGRAM, IN A SANDBOX (cutbox-door.mjs). By AI agents, Wed Nov 11 2026. No macro, syntax, notation, axiom, sorry.
-/
import Derived.Test.YtlfihcndchjgcaaDoorRows
import GoSem.ClaimSeven
namespace Go.Proofs.YtlfihcndchjgcaaDoor
namespace Rows

/-- THE TIED CARD OF 'ductuslaw05.BaseSkips'. -/
def baseSkipsCard : Claim7 := { stood := { row := baseSkipsRow, standIns := [], harness := (true, "22d51a72bb26dc9777cc6207516299d192d132937a86241962795f2473dd2d06"), looks := false }, kinds := [], alts := [], laidByText := true, laidKinds := [.data], laidTests := true, laidLooks := .later }
def BaseSkipsCardSaid : Prop := Claim7.holds Tryd.pinned (.plain (OpenSpec.ofChange baseSkipsSpec)) baseSkipsCard

/-- THE SECOND FORM's CARD OF 'ductuslaw05.BaseSkips'. -/
def baseSkipsUptoCard : Claim7 := { stood := { row := baseSkipsUptoRow, standIns := [], harness := (true, "22d51a72bb26dc9777cc6207516299d192d132937a86241962795f2473dd2d06"), looks := false }, kinds := [], alts := [], laidByText := true, laidKinds := [.data], laidTests := true, laidLooks := .later }
def BaseSkipsUptoCardSaid : Prop := Claim7.holds Tryd.pinned (.plain (OpenSpec.upto baseSkipsSpec)) baseSkipsUptoCard
end Rows
end Go.Proofs.YtlfihcndchjgcaaDoor
