/-
  DERIVED. GIVEN WITH THE SEED: THE CARDS: each row of YtmkeiaomclpdfaaDoorRows.lean that lists a variable, with what it lists TIED to the program's text (the seventh form; the later family's looks); each row that meets fmt, with fmt's text TOLD by the authors' own Lean function (tested against real Go, not proved from fmt's source: count such statements apart). THE CARD IS WHAT COUNTS. Prove the row's statement (the work); the ties are given (YtmkeiaomclpdfaaDoorTie.lean); close each card by the builder's one call (the guide's Derived/Test/ToyasCard.lean, 'card_holds'). Laid BY PROGRAM, IN A SANDBOX (cutbox-door.mjs). By AI agents, Wed Nov 11 2026. No macro, syntax, notation, axiom, sorry.
-/
import Derived.Test.YtmkeiaomclpdfaaDoorRows
import GoSem.ClaimSeven
namespace Go.Proofs.YtmkeiaomclpdfaaDoor
namespace Rows

/-- THE TIED CARD OF 'sphragislaw03.MacMacs'. -/
def macMacsCard : Claim7 := { stood := { row := macMacsRow, standIns := [], harness := (true, "f19a39d01fbc817ce823ba148822d24e695baf2b162d2cc1bd87291a614bf8c6"), looks := false }, kinds := [], alts := [], laidByText := true, laidKinds := [.data, .data, .data], laidTests := true, laidLooks := .later }
def MacMacsCardSaid : Prop := Claim7.holds Tryd.pinned (.plain (OpenSpec.ofChange macMacsSpec)) macMacsCard

/-- THE TIED CARD OF 'sphragislaw03.MacKeys'. -/
def macKeysCard : Claim7 := { stood := { row := macKeysRow, standIns := [], harness := (true, "f19a39d01fbc817ce823ba148822d24e695baf2b162d2cc1bd87291a614bf8c6"), looks := false }, kinds := [], alts := [], laidByText := true, laidKinds := [.data, .data, .data], laidTests := true, laidLooks := .later }
def MacKeysCardSaid : Prop := Claim7.holds Tryd.pinned (.plain (OpenSpec.ofChange macKeysSpec)) macKeysCard

/-- THE TIED CARD OF 'sphragislaw03.MacCuts'. -/
def macCutsCard : Claim7 := { stood := { row := macCutsRow, standIns := [], harness := (true, "f19a39d01fbc817ce823ba148822d24e695baf2b162d2cc1bd87291a614bf8c6"), looks := false }, kinds := [], alts := [], laidByText := true, laidKinds := [.data, .data], laidTests := true, laidLooks := .later }
def MacCutsCardSaid : Prop := Claim7.holds Tryd.pinned (.plain (OpenSpec.ofChange macCutsSpec)) macCutsCard

/-- THE TIED CARD OF 'sphragislaw03.MacEqual'. -/
def macEqualCard : Claim7 := { stood := { row := macEqualRow, standIns := [], harness := (true, "f19a39d01fbc817ce823ba148822d24e695baf2b162d2cc1bd87291a614bf8c6"), looks := false }, kinds := [], alts := [], laidByText := true, laidKinds := [.data, .data], laidTests := true, laidLooks := .later }
def MacEqualCardSaid : Prop := Claim7.holds Tryd.pinned (.plain (OpenSpec.ofChange macEqualSpec)) macEqualCard

/-- THE TIED CARD OF 'sphragislaw03.MacLess'. -/
def macLessCard : Claim7 := { stood := { row := macLessRow, standIns := [], harness := (true, "f19a39d01fbc817ce823ba148822d24e695baf2b162d2cc1bd87291a614bf8c6"), looks := false }, kinds := [], alts := [], laidByText := true, laidKinds := [.data, .data], laidTests := true, laidLooks := .later }
def MacLessCardSaid : Prop := Claim7.holds Tryd.pinned (.plain (OpenSpec.ofChange macLessSpec)) macLessCard

/-- THE TIED CARD OF 'sphragislaw03.MacLong'. -/
def macLongCard : Claim7 := { stood := { row := macLongRow, standIns := [], harness := (true, "f19a39d01fbc817ce823ba148822d24e695baf2b162d2cc1bd87291a614bf8c6"), looks := false }, kinds := [], alts := [], laidByText := true, laidKinds := [.data, .data], laidTests := true, laidLooks := .later }
def MacLongCardSaid : Prop := Claim7.holds Tryd.pinned (.plain (OpenSpec.ofChange macLongSpec)) macLongCard

/-- THE TIED CARD OF 'sphragislaw03.MacExpands'. -/
def macExpandsCard : Claim7 := { stood := { row := macExpandsRow, standIns := [], harness := (true, "f19a39d01fbc817ce823ba148822d24e695baf2b162d2cc1bd87291a614bf8c6"), looks := false }, kinds := [], alts := [], laidByText := true, laidKinds := [.data, .data, .data], laidTests := true, laidLooks := .later }
def MacExpandsCardSaid : Prop := Claim7.holds Tryd.pinned (.plain (OpenSpec.ofChange macExpandsSpec)) macExpandsCard

/-- THE SECOND FORM's CARD OF 'sphragislaw03.MacMacs'. -/
def macMacsUptoCard : Claim7 := { stood := { row := macMacsUptoRow, standIns := [], harness := (true, "f19a39d01fbc817ce823ba148822d24e695baf2b162d2cc1bd87291a614bf8c6"), looks := false }, kinds := [], alts := [], laidByText := true, laidKinds := [.data, .data, .data], laidTests := true, laidLooks := .later }
def MacMacsUptoCardSaid : Prop := Claim7.holds Tryd.pinned (.plain (OpenSpec.upto macMacsSpec)) macMacsUptoCard

/-- THE SECOND FORM's CARD OF 'sphragislaw03.MacKeys'. -/
def macKeysUptoCard : Claim7 := { stood := { row := macKeysUptoRow, standIns := [], harness := (true, "f19a39d01fbc817ce823ba148822d24e695baf2b162d2cc1bd87291a614bf8c6"), looks := false }, kinds := [], alts := [], laidByText := true, laidKinds := [.data, .data, .data], laidTests := true, laidLooks := .later }
def MacKeysUptoCardSaid : Prop := Claim7.holds Tryd.pinned (.plain (OpenSpec.upto macKeysSpec)) macKeysUptoCard

/-- THE SECOND FORM's CARD OF 'sphragislaw03.MacCuts'. -/
def macCutsUptoCard : Claim7 := { stood := { row := macCutsUptoRow, standIns := [], harness := (true, "f19a39d01fbc817ce823ba148822d24e695baf2b162d2cc1bd87291a614bf8c6"), looks := false }, kinds := [], alts := [], laidByText := true, laidKinds := [.data, .data], laidTests := true, laidLooks := .later }
def MacCutsUptoCardSaid : Prop := Claim7.holds Tryd.pinned (.plain (OpenSpec.upto macCutsSpec)) macCutsUptoCard

/-- THE SECOND FORM's CARD OF 'sphragislaw03.MacEqual'. -/
def macEqualUptoCard : Claim7 := { stood := { row := macEqualUptoRow, standIns := [], harness := (true, "f19a39d01fbc817ce823ba148822d24e695baf2b162d2cc1bd87291a614bf8c6"), looks := false }, kinds := [], alts := [], laidByText := true, laidKinds := [.data, .data], laidTests := true, laidLooks := .later }
def MacEqualUptoCardSaid : Prop := Claim7.holds Tryd.pinned (.plain (OpenSpec.upto macEqualSpec)) macEqualUptoCard

/-- THE SECOND FORM's CARD OF 'sphragislaw03.MacLess'. -/
def macLessUptoCard : Claim7 := { stood := { row := macLessUptoRow, standIns := [], harness := (true, "f19a39d01fbc817ce823ba148822d24e695baf2b162d2cc1bd87291a614bf8c6"), looks := false }, kinds := [], alts := [], laidByText := true, laidKinds := [.data, .data], laidTests := true, laidLooks := .later }
def MacLessUptoCardSaid : Prop := Claim7.holds Tryd.pinned (.plain (OpenSpec.upto macLessSpec)) macLessUptoCard

/-- THE SECOND FORM's CARD OF 'sphragislaw03.MacLong'. -/
def macLongUptoCard : Claim7 := { stood := { row := macLongUptoRow, standIns := [], harness := (true, "f19a39d01fbc817ce823ba148822d24e695baf2b162d2cc1bd87291a614bf8c6"), looks := false }, kinds := [], alts := [], laidByText := true, laidKinds := [.data, .data], laidTests := true, laidLooks := .later }
def MacLongUptoCardSaid : Prop := Claim7.holds Tryd.pinned (.plain (OpenSpec.upto macLongSpec)) macLongUptoCard

/-- THE SECOND FORM's CARD OF 'sphragislaw03.MacExpands'. -/
def macExpandsUptoCard : Claim7 := { stood := { row := macExpandsUptoRow, standIns := [], harness := (true, "f19a39d01fbc817ce823ba148822d24e695baf2b162d2cc1bd87291a614bf8c6"), looks := false }, kinds := [], alts := [], laidByText := true, laidKinds := [.data, .data, .data], laidTests := true, laidLooks := .later }
def MacExpandsUptoCardSaid : Prop := Claim7.holds Tryd.pinned (.plain (OpenSpec.upto macExpandsSpec)) macExpandsUptoCard
end Rows
end Go.Proofs.YtmkeiaomclpdfaaDoor
