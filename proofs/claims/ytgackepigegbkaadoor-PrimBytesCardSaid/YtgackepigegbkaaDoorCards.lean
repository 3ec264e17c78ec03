/-
  DERIVED. GIVEN WITH THE SEED: THE CARDS: each row of YtgackepigegbkaaDoorRows.lean that lists a variable, with what it lists TIED to the program's text (the seventh form; the later family's looks); each row that meets fmt, with fmt's text TOLD by the authors' own Lean function (tested against real Go, not proved from fmt's source: count such statements apart). THE CARD IS WHAT COUNTS. Prove the row's statement (the work); the ties are given (YtgackepigegbkaaDoorTie.lean); close each card by the builder's one call (the guide's Derived/Test/ToyasCard.lean, 'card_holds'). Laid BY PROGRAM, IN A SANDBOX (cutbox-door.mjs). By AI agents, Wed Nov 11 2026. No macro, syntax, notation, axiom, sorry.
-/
import Derived.Test.YtgackepigegbkaaDoorRows
import GoSem.ClaimSeven
namespace Go.Proofs.YtgackepigegbkaaDoor
namespace Rows

/-- THE TIED CARD OF 'stencillaw01.PrimOrder'. -/
def primOrderCard : Claim7 := { stood := { row := primOrderRow, standIns := [], harness := (true, "428c309a02bf4e9dad1da721acd963dd8650c8a81b8d871fef7869ac1246f1fb"), looks := false }, kinds := [], alts := [], laidByText := true, laidKinds := [.data], laidTests := true, laidLooks := .later }
def PrimOrderCardSaid : Prop := Claim7.holds Tryd.pinned (.plain (OpenSpec.ofChange primOrderSpec)) primOrderCard

/-- THE TIED CARD OF 'stencillaw01.PrimWords'. -/
def primWordsCard : Claim7 := { stood := { row := primWordsRow, standIns := [], harness := (true, "428c309a02bf4e9dad1da721acd963dd8650c8a81b8d871fef7869ac1246f1fb"), looks := false }, kinds := [], alts := [], laidByText := true, laidKinds := [.data], laidTests := true, laidLooks := .later }
def PrimWordsCardSaid : Prop := Claim7.holds Tryd.pinned (.plain (OpenSpec.ofChange primWordsSpec)) primWordsCard

/-- THE TIED CARD OF 'stencillaw01.PrimBytes'. -/
def primBytesCard : Claim7 := { stood := { row := primBytesRow, standIns := [], harness := (true, "428c309a02bf4e9dad1da721acd963dd8650c8a81b8d871fef7869ac1246f1fb"), looks := false }, kinds := [], alts := [], laidByText := true, laidKinds := [.data], laidTests := true, laidLooks := .later }
def PrimBytesCardSaid : Prop := Claim7.holds Tryd.pinned (.plain (OpenSpec.ofChange primBytesSpec)) primBytesCard

/-- THE TIED CARD OF 'stencillaw01.PrimBack'. -/
def primBackCard : Claim7 := { stood := { row := primBackRow, standIns := [], harness := (true, "428c309a02bf4e9dad1da721acd963dd8650c8a81b8d871fef7869ac1246f1fb"), looks := false }, kinds := [], alts := [], laidByText := true, laidKinds := [.data], laidTests := true, laidLooks := .later }
def PrimBackCardSaid : Prop := Claim7.holds Tryd.pinned (.plain (OpenSpec.ofChange primBackSpec)) primBackCard

/-- THE SECOND FORM's CARD OF 'stencillaw01.PrimOrder'. -/
def primOrderUptoCard : Claim7 := { stood := { row := primOrderUptoRow, standIns := [], harness := (true, "428c309a02bf4e9dad1da721acd963dd8650c8a81b8d871fef7869ac1246f1fb"), looks := false }, kinds := [], alts := [], laidByText := true, laidKinds := [.data], laidTests := true, laidLooks := .later }
def PrimOrderUptoCardSaid : Prop := Claim7.holds Tryd.pinned (.plain (OpenSpec.upto primOrderSpec)) primOrderUptoCard

/-- THE SECOND FORM's CARD OF 'stencillaw01.PrimWords'. -/
def primWordsUptoCard : Claim7 := { stood := { row := primWordsUptoRow, standIns := [], harness := (true, "428c309a02bf4e9dad1da721acd963dd8650c8a81b8d871fef7869ac1246f1fb"), looks := false }, kinds := [], alts := [], laidByText := true, laidKinds := [.data], laidTests := true, laidLooks := .later }
def PrimWordsUptoCardSaid : Prop := Claim7.holds Tryd.pinned (.plain (OpenSpec.upto primWordsSpec)) primWordsUptoCard

/-- THE SECOND FORM's CARD OF 'stencillaw01.PrimBytes'. -/
def primBytesUptoCard : Claim7 := { stood := { row := primBytesUptoRow, standIns := [], harness := (true, "428c309a02bf4e9dad1da721acd963dd8650c8a81b8d871fef7869ac1246f1fb"), looks := false }, kinds := [], alts := [], laidByText := true, laidKinds := [.data], laidTests := true, laidLooks := .later }
def PrimBytesUptoCardSaid : Prop := Claim7.holds Tryd.pinned (.plain (OpenSpec.upto primBytesSpec)) primBytesUptoCard

/-- THE SECOND FORM's CARD OF 'stencillaw01.PrimBack'. -/
def primBackUptoCard : Claim7 := { stood := { row := primBackUptoRow, standIns := [], harness := (true, "428c309a02bf4e9dad1da721acd963dd8650c8a81b8d871fef7869ac1246f1fb"), looks := false }, kinds := [], alts := [], laidByText := true, laidKinds := [.data], laidTests := true, laidLooks := .later }
def PrimBackUptoCardSaid : Prop := Claim7.holds Tryd.pinned (.plain (OpenSpec.upto primBackSpec)) primBackUptoCard
end Rows
end Go.Proofs.YtgackepigegbkaaDoor
