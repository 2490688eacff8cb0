/-
  DERIVED. GIVEN WITH THE SEED: THE CARDS: each row of YtfheeghkajihoaaDoorRows.lean that lists a variable, with what it lists TIED to the program's text (the seventh form; the later family's looks); each row that meets fmt, with fmt's text TOLD by the authors' own Lean function (tested against real Go, not proved from fmt's source: count such statements apart). THE CARD IS WHAT COUNTS. Prove the row's statement (the work); the ties are given (YtfheeghkajihoaaDoorTie.lean); close each card by the builder's one call (the guide's Derived/Test/ToyasCard.lean, 'card_holds'). Laid BY PROGRAM, IN A SANDBOX (cutbox-door.mjs). By AI agents, Wed Nov 11 2026. No macro, syntax, notation, axiom, sorry.
-/
import Derived.Test.YtfheeghkajihoaaDoorRows
import GoSem.ClaimSeven
namespace Go.Proofs.YtfheeghkajihoaaDoor
namespace Rows

/-- THE TIED CARD OF 'kauditlaw22.AssembleComplete'. -/
def assembleCompleteCard : Claim7 := { stood := { row := assembleCompleteRow, standIns := [], harness := (true, "fe7cce87f4500690f0cfbafa5eedf93307ab10cacd821de877a9ba3e5fb00c48"), looks := false }, kinds := [], alts := [], laidByText := true, laidKinds := [.data], laidTests := true, laidLooks := .later }
def AssembleCompleteCardSaid : Prop := Claim7.holds Tryd.pinned (.plain (OpenSpec.ofChange assembleCompleteSpec)) assembleCompleteCard

/-- THE TIED CARD OF 'kauditlaw22.AssembleDivides'. -/
def assembleDividesCard : Claim7 := { stood := { row := assembleDividesRow, standIns := [], harness := (true, "fe7cce87f4500690f0cfbafa5eedf93307ab10cacd821de877a9ba3e5fb00c48"), looks := false }, kinds := [], alts := [], laidByText := true, laidKinds := [.data], laidTests := true, laidLooks := .later }
def AssembleDividesCardSaid : Prop := Claim7.holds Tryd.pinned (.plain (OpenSpec.ofChange assembleDividesSpec)) assembleDividesCard

/-- THE TIED CARD OF 'kauditlaw22.AssembleLimits'. -/
def assembleLimitsCard : Claim7 := { stood := { row := assembleLimitsRow, standIns := [], harness := (true, "fe7cce87f4500690f0cfbafa5eedf93307ab10cacd821de877a9ba3e5fb00c48"), looks := false }, kinds := [], alts := [], laidByText := true, laidKinds := [.data], laidTests := true, laidLooks := .later }
def AssembleLimitsCardSaid : Prop := Claim7.holds Tryd.pinned (.plain (OpenSpec.ofChange assembleLimitsSpec)) assembleLimitsCard

/-- THE TIED CARD OF 'kauditlaw22.AssembleFeeds'. -/
def assembleFeedsCard : Claim7 := { stood := { row := assembleFeedsRow, standIns := [], harness := (true, "fe7cce87f4500690f0cfbafa5eedf93307ab10cacd821de877a9ba3e5fb00c48"), looks := false }, kinds := [], alts := [], laidByText := true, laidKinds := [.data], laidTests := true, laidLooks := .later }
def AssembleFeedsCardSaid : Prop := Claim7.holds Tryd.pinned (.plain (OpenSpec.ofChange assembleFeedsSpec)) assembleFeedsCard

/-- THE TIED CARD OF 'kauditlaw22.AssembleRaw'. -/
def assembleRawCard : Claim7 := { stood := { row := assembleRawRow, standIns := [], harness := (true, "fe7cce87f4500690f0cfbafa5eedf93307ab10cacd821de877a9ba3e5fb00c48"), looks := false }, kinds := [], alts := [], laidByText := true, laidKinds := [.data], laidTests := true, laidLooks := .later }
def AssembleRawCardSaid : Prop := Claim7.holds Tryd.pinned (.plain (OpenSpec.ofChange assembleRawSpec)) assembleRawCard

/-- THE TIED CARD OF 'kauditlaw22.AssembleAscends'. -/
def assembleAscendsCard : Claim7 := { stood := { row := assembleAscendsRow, standIns := [], harness := (true, "fe7cce87f4500690f0cfbafa5eedf93307ab10cacd821de877a9ba3e5fb00c48"), looks := false }, kinds := [], alts := [], laidByText := true, laidKinds := [.data], laidTests := true, laidLooks := .later }
def AssembleAscendsCardSaid : Prop := Claim7.holds Tryd.pinned (.plain (OpenSpec.ofChange assembleAscendsSpec)) assembleAscendsCard

/-- THE SECOND FORM's CARD OF 'kauditlaw22.AssembleComplete'. -/
def assembleCompleteUptoCard : Claim7 := { stood := { row := assembleCompleteUptoRow, standIns := [], harness := (true, "fe7cce87f4500690f0cfbafa5eedf93307ab10cacd821de877a9ba3e5fb00c48"), looks := false }, kinds := [], alts := [], laidByText := true, laidKinds := [.data], laidTests := true, laidLooks := .later }
def AssembleCompleteUptoCardSaid : Prop := Claim7.holds Tryd.pinned (.plain (OpenSpec.upto assembleCompleteSpec)) assembleCompleteUptoCard

/-- THE SECOND FORM's CARD OF 'kauditlaw22.AssembleDivides'. -/
def assembleDividesUptoCard : Claim7 := { stood := { row := assembleDividesUptoRow, standIns := [], harness := (true, "fe7cce87f4500690f0cfbafa5eedf93307ab10cacd821de877a9ba3e5fb00c48"), looks := false }, kinds := [], alts := [], laidByText := true, laidKinds := [.data], laidTests := true, laidLooks := .later }
def AssembleDividesUptoCardSaid : Prop := Claim7.holds Tryd.pinned (.plain (OpenSpec.upto assembleDividesSpec)) assembleDividesUptoCard

/-- THE SECOND FORM's CARD OF 'kauditlaw22.AssembleLimits'. -/
def assembleLimitsUptoCard : Claim7 := { stood := { row := assembleLimitsUptoRow, standIns := [], harness := (true, "fe7cce87f4500690f0cfbafa5eedf93307ab10cacd821de877a9ba3e5fb00c48"), looks := false }, kinds := [], alts := [], laidByText := true, laidKinds := [.data], laidTests := true, laidLooks := .later }
def AssembleLimitsUptoCardSaid : Prop := Claim7.holds Tryd.pinned (.plain (OpenSpec.upto assembleLimitsSpec)) assembleLimitsUptoCard

/-- THE SECOND FORM's CARD OF 'kauditlaw22.AssembleFeeds'. -/
def assembleFeedsUptoCard : Claim7 := { stood := { row := assembleFeedsUptoRow, standIns := [], harness := (true, "fe7cce87f4500690f0cfbafa5eedf93307ab10cacd821de877a9ba3e5fb00c48"), looks := false }, kinds := [], alts := [], laidByText := true, laidKinds := [.data], laidTests := true, laidLooks := .later }
def AssembleFeedsUptoCardSaid : Prop := Claim7.holds Tryd.pinned (.plain (OpenSpec.upto assembleFeedsSpec)) assembleFeedsUptoCard

/-- THE SECOND FORM's CARD OF 'kauditlaw22.AssembleRaw'. -/
def assembleRawUptoCard : Claim7 := { stood := { row := assembleRawUptoRow, standIns := [], harness := (true, "fe7cce87f4500690f0cfbafa5eedf93307ab10cacd821de877a9ba3e5fb00c48"), looks := false }, kinds := [], alts := [], laidByText := true, laidKinds := [.data], laidTests := true, laidLooks := .later }
def AssembleRawUptoCardSaid : Prop := Claim7.holds Tryd.pinned (.plain (OpenSpec.upto assembleRawSpec)) assembleRawUptoCard

/-- THE SECOND FORM's CARD OF 'kauditlaw22.AssembleAscends'. -/
def assembleAscendsUptoCard : Claim7 := { stood := { row := assembleAscendsUptoRow, standIns := [], harness := (true, "fe7cce87f4500690f0cfbafa5eedf93307ab10cacd821de877a9ba3e5fb00c48"), looks := false }, kinds := [], alts := [], laidByText := true, laidKinds := [.data], laidTests := true, laidLooks := .later }
def AssembleAscendsUptoCardSaid : Prop := Claim7.holds Tryd.pinned (.plain (OpenSpec.upto assembleAscendsSpec)) assembleAscendsUptoCard
end Rows
end Go.Proofs.YtfheeghkajihoaaDoor
