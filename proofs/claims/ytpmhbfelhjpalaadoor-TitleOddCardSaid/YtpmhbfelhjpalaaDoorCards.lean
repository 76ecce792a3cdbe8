/-
  DERIVED. GIVEN WITH THE SEED: THE CARDS: each row of YtpmhbfelhjpalaaDoorRows.lean that lists a variable, with what it lists TIED to the program's text (the seventh form; the later family's looks); each row that meets fmt, with fmt's text TOLD by the authors' own Lean function (tested against real Go, not proved from fmt's source: count such statements apart). THE CARD IS WHAT COUNTS. Prove the row's statement (the work); the ties are given (YtpmhbfelhjpalaaDoorTie.lean); close each card by the builder's one call (the guide's Derived/Test/ToyasCard.lean, 'card_holds'). Laid BY PROGRAM, IN A SANDBOX (cutbox-door.mjs). By AI agents, Wed Nov 11 2026. No macro, syntax, notation, axiom, sorry.
-/
import Derived.Test.YtpmhbfelhjpalaaDoorRows
import GoSem.ClaimSeven
namespace Go.Proofs.YtpmhbfelhjpalaaDoor
namespace Rows

/-- THE TIED CARD OF 'rondellaw06.TitleClean'. -/
def titleCleanCard : Claim7 := { stood := { row := titleCleanRow, standIns := [], harness := (true, "83d4f9fb179433795c814c73c471b7f57f0658d85b2d51dad9f518e37a5ae7d5"), looks := false }, kinds := [], alts := [], laidByText := true, laidKinds := [.data, .pinned], laidTests := true, laidLooks := .later }
def TitleCleanCardSaid : Prop := Claim7.holds Tryd.pinned (.plain (OpenSpec.ofChange titleCleanSpec)) titleCleanCard

/-- THE TIED CARD OF 'rondellaw06.TitleOdd'. -/
def titleOddCard : Claim7 := { stood := { row := titleOddRow, standIns := [], harness := (true, "83d4f9fb179433795c814c73c471b7f57f0658d85b2d51dad9f518e37a5ae7d5"), looks := false }, kinds := [], alts := [], laidByText := true, laidKinds := [.data, .pinned], laidTests := true, laidLooks := .later }
def TitleOddCardSaid : Prop := Claim7.holds Tryd.pinned (.plain (OpenSpec.ofChange titleOddSpec)) titleOddCard

/-- THE TIED CARD OF 'rondellaw06.TitleLong'. -/
def titleLongCard : Claim7 := { stood := { row := titleLongRow, standIns := [], harness := (true, "83d4f9fb179433795c814c73c471b7f57f0658d85b2d51dad9f518e37a5ae7d5"), looks := false }, kinds := [], alts := [], laidByText := true, laidKinds := [.data, .pinned], laidTests := true, laidLooks := .later }
def TitleLongCardSaid : Prop := Claim7.holds Tryd.pinned (.plain (OpenSpec.ofChange titleLongSpec)) titleLongCard

/-- THE SECOND FORM's CARD OF 'rondellaw06.TitleClean'. -/
def titleCleanUptoCard : Claim7 := { stood := { row := titleCleanUptoRow, standIns := [], harness := (true, "83d4f9fb179433795c814c73c471b7f57f0658d85b2d51dad9f518e37a5ae7d5"), looks := false }, kinds := [], alts := [], laidByText := true, laidKinds := [.data, .pinned], laidTests := true, laidLooks := .later }
def TitleCleanUptoCardSaid : Prop := Claim7.holds Tryd.pinned (.plain (OpenSpec.upto titleCleanSpec)) titleCleanUptoCard

/-- THE SECOND FORM's CARD OF 'rondellaw06.TitleOdd'. -/
def titleOddUptoCard : Claim7 := { stood := { row := titleOddUptoRow, standIns := [], harness := (true, "83d4f9fb179433795c814c73c471b7f57f0658d85b2d51dad9f518e37a5ae7d5"), looks := false }, kinds := [], alts := [], laidByText := true, laidKinds := [.data, .pinned], laidTests := true, laidLooks := .later }
def TitleOddUptoCardSaid : Prop := Claim7.holds Tryd.pinned (.plain (OpenSpec.upto titleOddSpec)) titleOddUptoCard

/-- THE SECOND FORM's CARD OF 'rondellaw06.TitleLong'. -/
def titleLongUptoCard : Claim7 := { stood := { row := titleLongUptoRow, standIns := [], harness := (true, "83d4f9fb179433795c814c73c471b7f57f0658d85b2d51dad9f518e37a5ae7d5"), looks := false }, kinds := [], alts := [], laidByText := true, laidKinds := [.data, .pinned], laidTests := true, laidLooks := .later }
def TitleLongUptoCardSaid : Prop := Claim7.holds Tryd.pinned (.plain (OpenSpec.upto titleLongSpec)) titleLongUptoCard
end Rows
end Go.Proofs.YtpmhbfelhjpalaaDoor
