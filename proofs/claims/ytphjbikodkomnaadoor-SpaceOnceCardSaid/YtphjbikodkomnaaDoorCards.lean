/-
  DERIVED. GIVEN WITH THE SEED: THE CARDS: each row of YtphjbikodkomnaaDoorRows.lean that lists a variable, with what it lists TIED to the program's text (the seventh form; the later family's looks); each row that meets fmt, with fmt's text TOLD by the authors' own Lean function (tested against real Go, not proved from fmt's source: count such statements apart). THE CARD IS WHAT COUNTS. Prove the row's statement (the work); the ties are given (YtphjbikodkomnaaDoorTie.lean); close each card by the builder's one call (the guide's Derived/Test/ToyasCard.lean, 'card_holds'). Laid BY PROGRAM, IN A SANDBOX (cutbox-door.mjs). By AI agents, Wed Nov 11 2026. No macro, syntax, notation, axiom, sorry.
-/
import Derived.Test.YtphjbikodkomnaaDoorRows
import GoSem.ClaimSeven
namespace Go.Proofs.YtphjbikodkomnaaDoor
namespace Rows

/-- THE TIED CARD OF 'kauditlaw27.SpaceLooks'. -/
def spaceLooksCard : Claim7 := { stood := { row := spaceLooksRow, standIns := [], harness := (true, "b6803c0f3a4c5846eb1821ba7bf4ac9a1f3dffe18a44f980114f0728eb68ec59"), looks := false }, kinds := [], alts := [], laidByText := true, laidKinds := [.data], laidTests := true, laidLooks := .later }
def SpaceLooksCardSaid : Prop := Claim7.holds Tryd.pinned (.plain (OpenSpec.ofChange spaceLooksSpec)) spaceLooksCard

/-- THE TIED CARD OF 'kauditlaw27.SpaceOnce'. -/
def spaceOnceCard : Claim7 := { stood := { row := spaceOnceRow, standIns := [], harness := (true, "b6803c0f3a4c5846eb1821ba7bf4ac9a1f3dffe18a44f980114f0728eb68ec59"), looks := false }, kinds := [], alts := [], laidByText := true, laidKinds := [.data], laidTests := true, laidLooks := .later }
def SpaceOnceCardSaid : Prop := Claim7.holds Tryd.pinned (.plain (OpenSpec.ofChange spaceOnceSpec)) spaceOnceCard

/-- THE TIED CARD OF 'kauditlaw27.SpaceNames'. -/
def spaceNamesCard : Claim7 := { stood := { row := spaceNamesRow, standIns := [], harness := (true, "b6803c0f3a4c5846eb1821ba7bf4ac9a1f3dffe18a44f980114f0728eb68ec59"), looks := false }, kinds := [], alts := [], laidByText := true, laidKinds := [.data], laidTests := true, laidLooks := .later }
def SpaceNamesCardSaid : Prop := Claim7.holds Tryd.pinned (.plain (OpenSpec.ofChange spaceNamesSpec)) spaceNamesCard

/-- THE TIED CARD OF 'kauditlaw27.SpaceDeeper'. -/
def spaceDeeperCard : Claim7 := { stood := { row := spaceDeeperRow, standIns := [], harness := (true, "b6803c0f3a4c5846eb1821ba7bf4ac9a1f3dffe18a44f980114f0728eb68ec59"), looks := false }, kinds := [], alts := [], laidByText := true, laidKinds := [.data], laidTests := true, laidLooks := .later }
def SpaceDeeperCardSaid : Prop := Claim7.holds Tryd.pinned (.plain (OpenSpec.ofChange spaceDeeperSpec)) spaceDeeperCard

/-- THE SECOND FORM's CARD OF 'kauditlaw27.SpaceLooks'. -/
def spaceLooksUptoCard : Claim7 := { stood := { row := spaceLooksUptoRow, standIns := [], harness := (true, "b6803c0f3a4c5846eb1821ba7bf4ac9a1f3dffe18a44f980114f0728eb68ec59"), looks := false }, kinds := [], alts := [], laidByText := true, laidKinds := [.data], laidTests := true, laidLooks := .later }
def SpaceLooksUptoCardSaid : Prop := Claim7.holds Tryd.pinned (.plain (OpenSpec.upto spaceLooksSpec)) spaceLooksUptoCard

/-- THE SECOND FORM's CARD OF 'kauditlaw27.SpaceOnce'. -/
def spaceOnceUptoCard : Claim7 := { stood := { row := spaceOnceUptoRow, standIns := [], harness := (true, "b6803c0f3a4c5846eb1821ba7bf4ac9a1f3dffe18a44f980114f0728eb68ec59"), looks := false }, kinds := [], alts := [], laidByText := true, laidKinds := [.data], laidTests := true, laidLooks := .later }
def SpaceOnceUptoCardSaid : Prop := Claim7.holds Tryd.pinned (.plain (OpenSpec.upto spaceOnceSpec)) spaceOnceUptoCard

/-- THE SECOND FORM's CARD OF 'kauditlaw27.SpaceNames'. -/
def spaceNamesUptoCard : Claim7 := { stood := { row := spaceNamesUptoRow, standIns := [], harness := (true, "b6803c0f3a4c5846eb1821ba7bf4ac9a1f3dffe18a44f980114f0728eb68ec59"), looks := false }, kinds := [], alts := [], laidByText := true, laidKinds := [.data], laidTests := true, laidLooks := .later }
def SpaceNamesUptoCardSaid : Prop := Claim7.holds Tryd.pinned (.plain (OpenSpec.upto spaceNamesSpec)) spaceNamesUptoCard

/-- THE SECOND FORM's CARD OF 'kauditlaw27.SpaceDeeper'. -/
def spaceDeeperUptoCard : Claim7 := { stood := { row := spaceDeeperUptoRow, standIns := [], harness := (true, "b6803c0f3a4c5846eb1821ba7bf4ac9a1f3dffe18a44f980114f0728eb68ec59"), looks := false }, kinds := [], alts := [], laidByText := true, laidKinds := [.data], laidTests := true, laidLooks := .later }
def SpaceDeeperUptoCardSaid : Prop := Claim7.holds Tryd.pinned (.plain (OpenSpec.upto spaceDeeperSpec)) spaceDeeperUptoCard
end Rows
end Go.Proofs.YtphjbikodkomnaaDoor
