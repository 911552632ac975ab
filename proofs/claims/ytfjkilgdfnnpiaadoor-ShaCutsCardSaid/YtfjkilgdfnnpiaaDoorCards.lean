/-
  DERIVED. GIVEN WITH THE SEED: THE CARDS: each row of YtfjkilgdfnnpiaaDoorRows.lean that lists a variable, with what it lists TIED to the program's text (the seventh form; the later family's looks); each row that meets fmt, with fmt's text TOLD by the authors' own Lean function (tested against real Go, not proved from fmt's source: count such statements apart). THE CARD IS WHAT COUNTS. Prove the row's statement (the work); the ties are given (YtfjkilgdfnnpiaaDoorTie.lean); close each card by the builder's one call (the guide's Derived/Test/ToyasCard.lean, 'card_holds'). Laid BY PROGRAM, IN A SANDBOX (cutbox-door.mjs). By AI agents, Wed Nov 11 2026. No macro, syntax, notation, axiom, sorry.
-/
import Derived.Test.YtfjkilgdfnnpiaaDoorRows
import GoSem.ClaimSeven
namespace Go.Proofs.YtfjkilgdfnnpiaaDoor
namespace Rows

/-- THE TIED CARD OF 'sphragislaw02.ShaSums'. -/
def shaSumsCard : Claim7 := { stood := { row := shaSumsRow, standIns := [], harness := (true, "ddcfb786561891c823ea040c9095d9b7e7cb85df5af3c297505077a52dfcbf5a"), looks := false }, kinds := [], alts := [], laidByText := true, laidKinds := [.data, .data, .data], laidTests := true, laidLooks := .later }
def ShaSumsCardSaid : Prop := Claim7.holds Tryd.pinned (.plain (OpenSpec.ofChange shaSumsSpec)) shaSumsCard

/-- THE TIED CARD OF 'sphragislaw02.ShaLengths'. -/
def shaLengthsCard : Claim7 := { stood := { row := shaLengthsRow, standIns := [], harness := (true, "ddcfb786561891c823ea040c9095d9b7e7cb85df5af3c297505077a52dfcbf5a"), looks := false }, kinds := [], alts := [], laidByText := true, laidKinds := [.data, .data, .data], laidTests := true, laidLooks := .later }
def ShaLengthsCardSaid : Prop := Claim7.holds Tryd.pinned (.plain (OpenSpec.ofChange shaLengthsSpec)) shaLengthsCard

/-- THE TIED CARD OF 'sphragislaw02.ShaAdds'. -/
def shaAddsCard : Claim7 := { stood := { row := shaAddsRow, standIns := [], harness := (true, "ddcfb786561891c823ea040c9095d9b7e7cb85df5af3c297505077a52dfcbf5a"), looks := false }, kinds := [], alts := [], laidByText := true, laidKinds := [.data, .data, .data], laidTests := true, laidLooks := .later }
def ShaAddsCardSaid : Prop := Claim7.holds Tryd.pinned (.plain (OpenSpec.ofChange shaAddsSpec)) shaAddsCard

/-- THE TIED CARD OF 'sphragislaw02.ShaCuts'. -/
def shaCutsCard : Claim7 := { stood := { row := shaCutsRow, standIns := [], harness := (true, "ddcfb786561891c823ea040c9095d9b7e7cb85df5af3c297505077a52dfcbf5a"), looks := false }, kinds := [], alts := [], laidByText := true, laidKinds := [.data, .data], laidTests := true, laidLooks := .later }
def ShaCutsCardSaid : Prop := Claim7.holds Tryd.pinned (.plain (OpenSpec.ofChange shaCutsSpec)) shaCutsCard

/-- THE TIED CARD OF 'sphragislaw02.ShaWrites'. -/
def shaWritesCard : Claim7 := { stood := { row := shaWritesRow, standIns := [], harness := (true, "ddcfb786561891c823ea040c9095d9b7e7cb85df5af3c297505077a52dfcbf5a"), looks := false }, kinds := [], alts := [], laidByText := true, laidKinds := [.data, .data, .data], laidTests := true, laidLooks := .later }
def ShaWritesCardSaid : Prop := Claim7.holds Tryd.pinned (.plain (OpenSpec.ofChange shaWritesSpec)) shaWritesCard

/-- THE TIED CARD OF 'sphragislaw02.ShaFull'. -/
def shaFullCard : Claim7 := { stood := { row := shaFullRow, standIns := [], harness := (true, "ddcfb786561891c823ea040c9095d9b7e7cb85df5af3c297505077a52dfcbf5a"), looks := false }, kinds := [], alts := [], laidByText := true, laidKinds := [.data, .data], laidTests := true, laidLooks := .later }
def ShaFullCardSaid : Prop := Claim7.holds Tryd.pinned (.plain (OpenSpec.ofChange shaFullSpec)) shaFullCard

/-- THE TIED CARD OF 'sphragislaw02.ShaNone'. -/
def shaNoneCard : Claim7 := { stood := { row := shaNoneRow, standIns := [], harness := (true, "ddcfb786561891c823ea040c9095d9b7e7cb85df5af3c297505077a52dfcbf5a"), looks := false }, kinds := [], alts := [], laidByText := true, laidKinds := [.data, .data], laidTests := true, laidLooks := .later }
def ShaNoneCardSaid : Prop := Claim7.holds Tryd.pinned (.plain (OpenSpec.ofChange shaNoneSpec)) shaNoneCard

/-- THE SECOND FORM's CARD OF 'sphragislaw02.ShaSums'. -/
def shaSumsUptoCard : Claim7 := { stood := { row := shaSumsUptoRow, standIns := [], harness := (true, "ddcfb786561891c823ea040c9095d9b7e7cb85df5af3c297505077a52dfcbf5a"), looks := false }, kinds := [], alts := [], laidByText := true, laidKinds := [.data, .data, .data], laidTests := true, laidLooks := .later }
def ShaSumsUptoCardSaid : Prop := Claim7.holds Tryd.pinned (.plain (OpenSpec.upto shaSumsSpec)) shaSumsUptoCard

/-- THE SECOND FORM's CARD OF 'sphragislaw02.ShaLengths'. -/
def shaLengthsUptoCard : Claim7 := { stood := { row := shaLengthsUptoRow, standIns := [], harness := (true, "ddcfb786561891c823ea040c9095d9b7e7cb85df5af3c297505077a52dfcbf5a"), looks := false }, kinds := [], alts := [], laidByText := true, laidKinds := [.data, .data, .data], laidTests := true, laidLooks := .later }
def ShaLengthsUptoCardSaid : Prop := Claim7.holds Tryd.pinned (.plain (OpenSpec.upto shaLengthsSpec)) shaLengthsUptoCard

/-- THE SECOND FORM's CARD OF 'sphragislaw02.ShaAdds'. -/
def shaAddsUptoCard : Claim7 := { stood := { row := shaAddsUptoRow, standIns := [], harness := (true, "ddcfb786561891c823ea040c9095d9b7e7cb85df5af3c297505077a52dfcbf5a"), looks := false }, kinds := [], alts := [], laidByText := true, laidKinds := [.data, .data, .data], laidTests := true, laidLooks := .later }
def ShaAddsUptoCardSaid : Prop := Claim7.holds Tryd.pinned (.plain (OpenSpec.upto shaAddsSpec)) shaAddsUptoCard

/-- THE SECOND FORM's CARD OF 'sphragislaw02.ShaCuts'. -/
def shaCutsUptoCard : Claim7 := { stood := { row := shaCutsUptoRow, standIns := [], harness := (true, "ddcfb786561891c823ea040c9095d9b7e7cb85df5af3c297505077a52dfcbf5a"), looks := false }, kinds := [], alts := [], laidByText := true, laidKinds := [.data, .data], laidTests := true, laidLooks := .later }
def ShaCutsUptoCardSaid : Prop := Claim7.holds Tryd.pinned (.plain (OpenSpec.upto shaCutsSpec)) shaCutsUptoCard

/-- THE SECOND FORM's CARD OF 'sphragislaw02.ShaWrites'. -/
def shaWritesUptoCard : Claim7 := { stood := { row := shaWritesUptoRow, standIns := [], harness := (true, "ddcfb786561891c823ea040c9095d9b7e7cb85df5af3c297505077a52dfcbf5a"), looks := false }, kinds := [], alts := [], laidByText := true, laidKinds := [.data, .data, .data], laidTests := true, laidLooks := .later }
def ShaWritesUptoCardSaid : Prop := Claim7.holds Tryd.pinned (.plain (OpenSpec.upto shaWritesSpec)) shaWritesUptoCard

/-- THE SECOND FORM's CARD OF 'sphragislaw02.ShaFull'. -/
def shaFullUptoCard : Claim7 := { stood := { row := shaFullUptoRow, standIns := [], harness := (true, "ddcfb786561891c823ea040c9095d9b7e7cb85df5af3c297505077a52dfcbf5a"), looks := false }, kinds := [], alts := [], laidByText := true, laidKinds := [.data, .data], laidTests := true, laidLooks := .later }
def ShaFullUptoCardSaid : Prop := Claim7.holds Tryd.pinned (.plain (OpenSpec.upto shaFullSpec)) shaFullUptoCard

/-- THE SECOND FORM's CARD OF 'sphragislaw02.ShaNone'. -/
def shaNoneUptoCard : Claim7 := { stood := { row := shaNoneUptoRow, standIns := [], harness := (true, "ddcfb786561891c823ea040c9095d9b7e7cb85df5af3c297505077a52dfcbf5a"), looks := false }, kinds := [], alts := [], laidByText := true, laidKinds := [.data, .data], laidTests := true, laidLooks := .later }
def ShaNoneUptoCardSaid : Prop := Claim7.holds Tryd.pinned (.plain (OpenSpec.upto shaNoneSpec)) shaNoneUptoCard
end Rows
end Go.Proofs.YtfjkilgdfnnpiaaDoor
