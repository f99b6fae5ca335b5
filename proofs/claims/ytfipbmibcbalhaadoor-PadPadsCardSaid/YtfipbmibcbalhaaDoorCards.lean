/-
  DERIVED. GIVEN WITH THE SEED: THE CARDS: each row of YtfipbmibcbalhaaDoorRows.lean that lists a variable, with what it lists TIED to the program's text (the seventh form; the later family's looks); each row that meets fmt, with fmt's text TOLD by the authors' own Lean function (tested against real Go, not proved from fmt's source: count such statements apart). THE CARD IS WHAT COUNTS. Prove the row's statement (the work); the ties are given (YtfipbmibcbalhaaDoorTie.lean); close each card by the builder's one call (the guide's Derived/Test/ToyasCard.lean, 'card_holds'). Laid BY PROGRAM, IN A SANDBOX (cutbox-door.mjs). By AI agents, Wed Nov 11 2026. No macro, syntax, notation, axiom, sorry.
-/
import Derived.Test.YtfipbmibcbalhaaDoorRows
import GoSem.ClaimSeven
namespace Go.Proofs.YtfipbmibcbalhaaDoor
namespace Rows

/-- THE TIED CARD OF 'jalousielaw06.PadUnpads'. -/
def padUnpadsCard : Claim7 := { stood := { row := padUnpadsRow, standIns := [], harness := (true, "1e74be1925b6ff5585f2a7ae9ca1371da68cedd4777c118919bb232a34c5c000"), looks := false }, kinds := [], alts := [], laidByText := true, laidKinds := [.data, .pinned], laidTests := true, laidLooks := .later }
def PadUnpadsCardSaid : Prop := Claim7.holds Tryd.pinned (.plain (OpenSpec.ofChange padUnpadsSpec)) padUnpadsCard

/-- THE TIED CARD OF 'jalousielaw06.PadPads'. -/
def padPadsCard : Claim7 := { stood := { row := padPadsRow, standIns := [], harness := (true, "1e74be1925b6ff5585f2a7ae9ca1371da68cedd4777c118919bb232a34c5c000"), looks := false }, kinds := [], alts := [], laidByText := true, laidKinds := [.data, .pinned], laidTests := true, laidLooks := .later }
def PadPadsCardSaid : Prop := Claim7.holds Tryd.pinned (.plain (OpenSpec.ofChange padPadsSpec)) padPadsCard

/-- THE SECOND FORM's CARD OF 'jalousielaw06.PadUnpads'. -/
def padUnpadsUptoCard : Claim7 := { stood := { row := padUnpadsUptoRow, standIns := [], harness := (true, "1e74be1925b6ff5585f2a7ae9ca1371da68cedd4777c118919bb232a34c5c000"), looks := false }, kinds := [], alts := [], laidByText := true, laidKinds := [.data, .pinned], laidTests := true, laidLooks := .later }
def PadUnpadsUptoCardSaid : Prop := Claim7.holds Tryd.pinned (.plain (OpenSpec.upto padUnpadsSpec)) padUnpadsUptoCard

/-- THE SECOND FORM's CARD OF 'jalousielaw06.PadPads'. -/
def padPadsUptoCard : Claim7 := { stood := { row := padPadsUptoRow, standIns := [], harness := (true, "1e74be1925b6ff5585f2a7ae9ca1371da68cedd4777c118919bb232a34c5c000"), looks := false }, kinds := [], alts := [], laidByText := true, laidKinds := [.data, .pinned], laidTests := true, laidLooks := .later }
def PadPadsUptoCardSaid : Prop := Claim7.holds Tryd.pinned (.plain (OpenSpec.upto padPadsSpec)) padPadsUptoCard
end Rows
end Go.Proofs.YtfipbmibcbalhaaDoor
