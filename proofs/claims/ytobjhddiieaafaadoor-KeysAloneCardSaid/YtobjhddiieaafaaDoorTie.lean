/-
  DERIVED. GIVEN WITH THE SEED: THE PROGRAM's TIES (one call each: nine closed facts by the kernel) AND EACH ROW's TIE, after the 31st guide's Derived/Test/Toyas{Tie, Card}.lean. No idea stands in it: it is a product of the set-up. Laid BY PROGRAM, IN A SANDBOX (cutbox-door.mjs). By AI agents, Wed Nov 11 2026. No macro, syntax, notation, axiom, sorry.
-/
import Derived.Test.YtobjhddiieaafaaDoorRows
import Derived.LaidByTextLater
import Derived.SevenTiedAt
import Derived.LaidSub
import Derived.LaidOnce
namespace Go.Proofs.YtobjhddiieaafaaDoor
open Go
set_option maxRecDepth 100000
theorem seatTie1 : Tryd.prog.laidByTextLater [("sphragis/sphragisref02.table", Rows.laid_sphragis_sphragisref02_table), ("sphragis/sha.first", Rows.laid_sphragis_sha_first), ("sphragis/sha.constants", Rows.laid_sphragis_sha_constants)] [.data, .data, .data] true :=
  Program.laidByTextLater_by_one 24 8 65 (by kernel_rfl) (by kernel_rfl) (by kernel_rfl) (by kernel_rfl) (by kernel_rfl) (by kernel_rfl) (fun _ _ => by kernel_rfl)
theorem noOwnUnsafe : Tryd.pinned.checked.prog.headLifts.contains "ownunsafe" = false := by kernel_rfl
theorem tie : Tryd.prog.laidByTextLater [("sphragis/sphragisref02.table", Rows.laid_sphragis_sphragisref02_table), ("sphragis/sha.first", Rows.laid_sphragis_sha_first), ("sphragis/sha.constants", Rows.laid_sphragis_sha_constants)] [.data, .data, .data] true :=
  Program.laidByTextLater.sub seatTie1 ["sphragis/sphragisref02.table", "sphragis/sha.first", "sphragis/sha.constants"] (by kernel_rfl) (by kernel_rfl)
theorem keysSubs_row_tie : Rows.keysSubsRow.laidByTextAt .later Tryd.pinned [.data, .data, .data] true :=
  OpenClaim.laidByTextAt_later rfl rfl tie noOwnUnsafe
theorem tie2 : Tryd.prog.laidByTextLater [("sphragis/sha.first", Rows.laid_sphragis_sha_first), ("sphragis/sha.constants", Rows.laid_sphragis_sha_constants)] [.data, .data] true :=
  Program.laidByTextLater.sub seatTie1 ["sphragis/sha.first", "sphragis/sha.constants"] (by kernel_rfl) (by kernel_rfl)
theorem keysAlone_row_tie : Rows.keysAloneRow.laidByTextAt .later Tryd.pinned [.data, .data] true :=
  OpenClaim.laidByTextAt_later rfl rfl tie2 noOwnUnsafe
theorem keysSubsUpto_row_tie : Rows.keysSubsUptoRow.laidByTextAt .later Tryd.pinned [.data, .data, .data] true :=
  OpenClaim.laidByTextAt_later rfl rfl tie noOwnUnsafe
theorem keysAloneUpto_row_tie : Rows.keysAloneUptoRow.laidByTextAt .later Tryd.pinned [.data, .data] true :=
  OpenClaim.laidByTextAt_later rfl rfl tie2 noOwnUnsafe
end Go.Proofs.YtobjhddiieaafaaDoor
