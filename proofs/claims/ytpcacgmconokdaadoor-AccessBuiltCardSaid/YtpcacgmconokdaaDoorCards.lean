/-
  DERIVED. GIVEN WITH THE SEED: THE CARDS: each row of YtpcacgmconokdaaDoorRows.lean that lists a variable, with what it lists TIED to the program's text (the seventh form; the later family's looks); each row that meets fmt, with fmt's text TOLD by the authors' own Lean function (tested against real Go, not proved from fmt's source: count such statements apart). THE CARD IS WHAT COUNTS. Prove the row's statement (the work); the ties are given (YtpcacgmconokdaaDoorTie.lean); close each card by the builder's one call (the guide's Derived/Test/ToyasCard.lean, 'card_holds'). Laid BY PROGRAM, IN A SANDBOX (cutbox-door.mjs). By AI agents, Wed Nov 11 2026. No macro, syntax, notation, axiom, sorry.
-/
import Derived.Test.YtpcacgmconokdaaDoorRows
import GoSem.ClaimSeven
namespace Go.Proofs.YtpcacgmconokdaaDoor
namespace Rows

/-- THE TIED CARD OF 'kauditlaw08.AccessMays'. -/
def accessMaysCard : Claim7 := { stood := { row := accessMaysRow, standIns := [], harness := (true, "c1ecc34771a61637b996877a45e3b31e31e29563ac03c5172a38bd1f2ebe3f6f"), looks := false }, kinds := [], alts := [], laidByText := true, laidKinds := [.data], laidTests := true, laidLooks := .later }
def AccessMaysCardSaid : Prop := Claim7.holds Tryd.pinned (.plain (OpenSpec.ofChange accessMaysSpec)) accessMaysCard

/-- THE TIED CARD OF 'kauditlaw08.AccessUnion'. -/
def accessUnionCard : Claim7 := { stood := { row := accessUnionRow, standIns := [], harness := (true, "c1ecc34771a61637b996877a45e3b31e31e29563ac03c5172a38bd1f2ebe3f6f"), looks := false }, kinds := [], alts := [], laidByText := true, laidKinds := [.data], laidTests := true, laidLooks := .later }
def AccessUnionCardSaid : Prop := Claim7.holds Tryd.pinned (.plain (OpenSpec.ofChange accessUnionSpec)) accessUnionCard

/-- THE TIED CARD OF 'kauditlaw08.AccessClass'. -/
def accessClassCard : Claim7 := { stood := { row := accessClassRow, standIns := [], harness := (true, "c1ecc34771a61637b996877a45e3b31e31e29563ac03c5172a38bd1f2ebe3f6f"), looks := false }, kinds := [], alts := [], laidByText := true, laidKinds := [.data], laidTests := true, laidLooks := .later }
def AccessClassCardSaid : Prop := Claim7.holds Tryd.pinned (.plain (OpenSpec.ofChange accessClassSpec)) accessClassCard

/-- THE TIED CARD OF 'kauditlaw08.AccessTexts'. -/
def accessTextsCard : Claim7 := { stood := { row := accessTextsRow, standIns := [], harness := (true, "c1ecc34771a61637b996877a45e3b31e31e29563ac03c5172a38bd1f2ebe3f6f"), looks := false }, kinds := [], alts := [], laidByText := true, laidKinds := [.data], laidTests := true, laidLooks := .later }
def AccessTextsCardSaid : Prop := Claim7.holds Tryd.pinned (.plain (OpenSpec.ofChange accessTextsSpec)) accessTextsCard

/-- THE TIED CARD OF 'kauditlaw08.AccessBuilt'. -/
def accessBuiltCard : Claim7 := { stood := { row := accessBuiltRow, standIns := [], harness := (true, "c1ecc34771a61637b996877a45e3b31e31e29563ac03c5172a38bd1f2ebe3f6f"), looks := false }, kinds := [], alts := [], laidByText := true, laidKinds := [.data], laidTests := true, laidLooks := .later }
def AccessBuiltCardSaid : Prop := Claim7.holds Tryd.pinned (.plain (OpenSpec.ofChange accessBuiltSpec)) accessBuiltCard

/-- THE TIED CARD OF 'kauditlaw08.AccessBack'. -/
def accessBackCard : Claim7 := { stood := { row := accessBackRow, standIns := [], harness := (true, "c1ecc34771a61637b996877a45e3b31e31e29563ac03c5172a38bd1f2ebe3f6f"), looks := false }, kinds := [], alts := [], laidByText := true, laidKinds := [.data], laidTests := true, laidLooks := .later }
def AccessBackCardSaid : Prop := Claim7.holds Tryd.pinned (.plain (OpenSpec.ofChange accessBackSpec)) accessBackCard

/-- THE SECOND FORM's CARD OF 'kauditlaw08.AccessMays'. -/
def accessMaysUptoCard : Claim7 := { stood := { row := accessMaysUptoRow, standIns := [], harness := (true, "c1ecc34771a61637b996877a45e3b31e31e29563ac03c5172a38bd1f2ebe3f6f"), looks := false }, kinds := [], alts := [], laidByText := true, laidKinds := [.data], laidTests := true, laidLooks := .later }
def AccessMaysUptoCardSaid : Prop := Claim7.holds Tryd.pinned (.plain (OpenSpec.upto accessMaysSpec)) accessMaysUptoCard

/-- THE SECOND FORM's CARD OF 'kauditlaw08.AccessUnion'. -/
def accessUnionUptoCard : Claim7 := { stood := { row := accessUnionUptoRow, standIns := [], harness := (true, "c1ecc34771a61637b996877a45e3b31e31e29563ac03c5172a38bd1f2ebe3f6f"), looks := false }, kinds := [], alts := [], laidByText := true, laidKinds := [.data], laidTests := true, laidLooks := .later }
def AccessUnionUptoCardSaid : Prop := Claim7.holds Tryd.pinned (.plain (OpenSpec.upto accessUnionSpec)) accessUnionUptoCard

/-- THE SECOND FORM's CARD OF 'kauditlaw08.AccessClass'. -/
def accessClassUptoCard : Claim7 := { stood := { row := accessClassUptoRow, standIns := [], harness := (true, "c1ecc34771a61637b996877a45e3b31e31e29563ac03c5172a38bd1f2ebe3f6f"), looks := false }, kinds := [], alts := [], laidByText := true, laidKinds := [.data], laidTests := true, laidLooks := .later }
def AccessClassUptoCardSaid : Prop := Claim7.holds Tryd.pinned (.plain (OpenSpec.upto accessClassSpec)) accessClassUptoCard

/-- THE SECOND FORM's CARD OF 'kauditlaw08.AccessTexts'. -/
def accessTextsUptoCard : Claim7 := { stood := { row := accessTextsUptoRow, standIns := [], harness := (true, "c1ecc34771a61637b996877a45e3b31e31e29563ac03c5172a38bd1f2ebe3f6f"), looks := false }, kinds := [], alts := [], laidByText := true, laidKinds := [.data], laidTests := true, laidLooks := .later }
def AccessTextsUptoCardSaid : Prop := Claim7.holds Tryd.pinned (.plain (OpenSpec.upto accessTextsSpec)) accessTextsUptoCard

/-- THE SECOND FORM's CARD OF 'kauditlaw08.AccessBuilt'. -/
def accessBuiltUptoCard : Claim7 := { stood := { row := accessBuiltUptoRow, standIns := [], harness := (true, "c1ecc34771a61637b996877a45e3b31e31e29563ac03c5172a38bd1f2ebe3f6f"), looks := false }, kinds := [], alts := [], laidByText := true, laidKinds := [.data], laidTests := true, laidLooks := .later }
def AccessBuiltUptoCardSaid : Prop := Claim7.holds Tryd.pinned (.plain (OpenSpec.upto accessBuiltSpec)) accessBuiltUptoCard

/-- THE SECOND FORM's CARD OF 'kauditlaw08.AccessBack'. -/
def accessBackUptoCard : Claim7 := { stood := { row := accessBackUptoRow, standIns := [], harness := (true, "c1ecc34771a61637b996877a45e3b31e31e29563ac03c5172a38bd1f2ebe3f6f"), looks := false }, kinds := [], alts := [], laidByText := true, laidKinds := [.data], laidTests := true, laidLooks := .later }
def AccessBackUptoCardSaid : Prop := Claim7.holds Tryd.pinned (.plain (OpenSpec.upto accessBackSpec)) accessBackUptoCard
end Rows
end Go.Proofs.YtpcacgmconokdaaDoor
