/-
  DERIVED. GIVEN WITH THE SEED: THE CARDS: each row of YtobjhddiieaafaaDoorRows.lean that lists a variable, with what it lists TIED to the program's text (the seventh form; the later family's looks); each row that meets fmt, with fmt's text TOLD by the authors' own Lean function (tested against real Go, not proved from fmt's source: count such statements apart). THE CARD IS WHAT COUNTS. Prove the row's statement (the work); the ties are given (YtobjhddiieaafaaDoorTie.lean); close each card by the builder's one call (the guide's Derived/Test/ToyasCard.lean, 'card_holds'). Laid BY PROGRAM, IN A SANDBOX (cutbox-door.mjs). By AI agents, Wed Nov 11 2026. No macro, syntax, notation, axiom, sorry.
-/
import Derived.Test.YtobjhddiieaafaaDoorRows
import GoSem.ClaimSeven
namespace Go.Proofs.YtobjhddiieaafaaDoor
namespace Rows

/-- THE TIED CARD OF 'sphragislaw04.KeysSubs'. -/
def keysSubsCard : Claim7 := { stood := { row := keysSubsRow, standIns := [], harness := (true, "77d59cad62d676c6ebd384b67c97a3e907c43da49652251832e04e5f17c8b3ba"), looks := false }, kinds := [], alts := [], laidByText := true, laidKinds := [.data, .data, .data], laidTests := true, laidLooks := .later }
def KeysSubsCardSaid : Prop := Claim7.holds Tryd.pinned (.plain (OpenSpec.ofChange keysSubsSpec)) keysSubsCard

/-- THE TIED CARD OF 'sphragislaw04.KeysAlone'. -/
def keysAloneCard : Claim7 := { stood := { row := keysAloneRow, standIns := [], harness := (true, "77d59cad62d676c6ebd384b67c97a3e907c43da49652251832e04e5f17c8b3ba"), looks := false }, kinds := [], alts := [], laidByText := true, laidKinds := [.data, .data], laidTests := true, laidLooks := .later }
def KeysAloneCardSaid : Prop := Claim7.holds Tryd.pinned (.plain (OpenSpec.ofChange keysAloneSpec)) keysAloneCard

/-- THE SECOND FORM's CARD OF 'sphragislaw04.KeysSubs'. -/
def keysSubsUptoCard : Claim7 := { stood := { row := keysSubsUptoRow, standIns := [], harness := (true, "77d59cad62d676c6ebd384b67c97a3e907c43da49652251832e04e5f17c8b3ba"), looks := false }, kinds := [], alts := [], laidByText := true, laidKinds := [.data, .data, .data], laidTests := true, laidLooks := .later }
def KeysSubsUptoCardSaid : Prop := Claim7.holds Tryd.pinned (.plain (OpenSpec.upto keysSubsSpec)) keysSubsUptoCard

/-- THE SECOND FORM's CARD OF 'sphragislaw04.KeysAlone'. -/
def keysAloneUptoCard : Claim7 := { stood := { row := keysAloneUptoRow, standIns := [], harness := (true, "77d59cad62d676c6ebd384b67c97a3e907c43da49652251832e04e5f17c8b3ba"), looks := false }, kinds := [], alts := [], laidByText := true, laidKinds := [.data, .data], laidTests := true, laidLooks := .later }
def KeysAloneUptoCardSaid : Prop := Claim7.holds Tryd.pinned (.plain (OpenSpec.upto keysAloneSpec)) keysAloneUptoCard
end Rows
end Go.Proofs.YtobjhddiieaafaaDoor
