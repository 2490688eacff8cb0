/-
  NARROWER THAN 'FOR EVERY INPUT', by the rows' own cells (each row's printed sentence says how): AssembleComplete: laid · AssembleDivides: laid · AssembleLimits: laid · AssembleFeeds: laid · AssembleRaw: laid · AssembleAscends: laid.
  DERIVED. THE GIVEN ROWS OF THIS SEAT. 6 by the template 'for every input the law returns true; each argument reads behind the call as it read before'; 0 by the template 'total and deterministic' (their statements: YtfheeghkajihoaaDoorTotals.lean).
  GIVEN WITH THE SEED: the statements are not yours to turn. If you find one false, say at which input.
  Laid BY PROGRAM, IN A SANDBOX (cutbox-rows.mjs): the forced cells as the released guide's own fill.sh prints them over the translation 59423b0786fad0e2… (all of the seat's roots in one cut). By AI agents, Wed Nov 11 2026. No macro, syntax, notation, axiom, sorry.
-/
import Derived.Test.YtfheeghkajihoaaDoorChecked
import GoSem.Claim
import GoSem.ClaimJoined
import GoSem.ClaimMapViews
import Derived.JoinedTies
import Derived.KernelRfl
namespace Go.Proofs.YtfheeghkajihoaaDoor
/- THE CELL 'sum', in the pinned program and in every row, IS THE sha256 OF THE DUMP (.gsa) THAT YtfheeghkajihoaaDoorProg.lean LOADS. Nothing in Lean hashes anything: it is a label: what it is worth is what the hold of that sum in a sandbox is worth. -/
noncomputable def Tryd.pinned : Pinned := { name := "ytfheeghkajihoaadoor", sum := "59423b0786fad0e29bbe429d6e905619fd701e00f309bc69d25f6adcb848c72f", checked := Tryd.checked }
namespace Rows
def none {H : Type} : Left H := { results := [], args := [] }

/- WHAT THE LISTED PACKAGE-LEVEL VARIABLES READ AS WHEN THE CALL BEGINS. Each datum BY PROGRAM (the guide's laid-datum.mjs) off the statement by which the dump's own 'gosem.cut.vars' lays the variable. In a bare row this is a premise. The card (YtfheeghkajihoaaDoorCards.lean) ties it to the program's text. -/
def laid_kaudit_record_types {H : Type} : DataW H := .agg [.agg [.lit (.string [85, 83, 69, 82]), .lit (.int .i64 1005), .lit (.bool true)], .agg [.lit (.string [68, 65, 69, 77, 79, 78]), .lit (.int .i64 1200), .lit (.bool true)], .agg [.lit (.string [83, 89, 83, 67, 65, 76, 76]), .lit (.int .i64 1300), .lit (.bool false)], .agg [.lit (.string [80, 65, 84, 72]), .lit (.int .i64 1302), .lit (.bool false)], .agg [.lit (.string [67, 79, 78, 70, 73, 71]), .lit (.int .i64 1305), .lit (.bool true)], .agg [.lit (.string [83, 79, 67, 75, 65, 68, 68, 82]), .lit (.int .i64 1306), .lit (.bool false)], .agg [.lit (.string [67, 87, 68]), .lit (.int .i64 1307), .lit (.bool false)], .agg [.lit (.string [69, 88, 69, 67, 86, 69]), .lit (.int .i64 1309), .lit (.bool false)], .agg [.lit (.string [69, 79, 69]), .lit (.int .i64 1320), .lit (.bool false)], .agg [.lit (.string [76, 79, 83, 83]), .lit (.int .i64 1331), .lit (.bool true)]]

/-- 'kauditlaw22.AssembleComplete': WHATEVER THE INPUT: true; the input reads as it did. -/
def assembleCompleteSpec : ChangeSpec := { name := "assembleComplete", fn := fun _ => fun
  | [d1, d2] => { results := [.lit (.bool true)], args := [d1, d2] }
  | _ => none }
def assembleCompleteRow : OpenClaim := { program := "ytfheeghkajihoaadoor", sum := "59423b0786fad0e29bbe429d6e905619fd701e00f309bc69d25f6adcb848c72f", func := "kaudit/kauditlaw22.AssembleComplete", spec := "assembleComplete", inPlace := ["slices.overlaps[kaudit/api.Event]"], unfollowed := true, recurses := true, named := ["kaudit/record.types"], apart := false, laid := [("kaudit/record.types", laid_kaudit_record_types)] }
def AssembleCompleteSaid : Prop := assembleCompleteRow.holds Tryd.pinned (OpenSpec.ofChange assembleCompleteSpec)

/-- ITS FALSE NEIGHBOUR: 'it returns false'. Refute it at one input. -/
def assembleCompleteWrong : ChangeSpec := { name := "assembleComplete", fn := fun _ => fun
  | [d1, d2] => { results := [.lit (.bool false)], args := [d1, d2] }
  | _ => none }
def AssembleCompleteWrongFalsely : Prop := assembleCompleteRow.holds Tryd.pinned (OpenSpec.ofChange assembleCompleteWrong)

/-- 'kauditlaw22.AssembleDivides': WHATEVER THE INPUT: true; the input reads as it did. -/
def assembleDividesSpec : ChangeSpec := { name := "assembleDivides", fn := fun _ => fun
  | [d] => { results := [.lit (.bool true)], args := [d] }
  | _ => none }
def assembleDividesRow : OpenClaim := { program := "ytfheeghkajihoaadoor", sum := "59423b0786fad0e29bbe429d6e905619fd701e00f309bc69d25f6adcb848c72f", func := "kaudit/kauditlaw22.AssembleDivides", spec := "assembleDivides", inPlace := ["slices.overlaps[kaudit/api.Event]"], unfollowed := true, recurses := true, named := ["kaudit/record.types"], apart := false, laid := [("kaudit/record.types", laid_kaudit_record_types)] }
def AssembleDividesSaid : Prop := assembleDividesRow.holds Tryd.pinned (OpenSpec.ofChange assembleDividesSpec)

/-- ITS FALSE NEIGHBOUR: 'it returns false'. Refute it at one input. -/
def assembleDividesWrong : ChangeSpec := { name := "assembleDivides", fn := fun _ => fun
  | [d] => { results := [.lit (.bool false)], args := [d] }
  | _ => none }
def AssembleDividesWrongFalsely : Prop := assembleDividesRow.holds Tryd.pinned (OpenSpec.ofChange assembleDividesWrong)

/-- 'kauditlaw22.AssembleLimits': WHATEVER THE INPUT: true; the input reads as it did. -/
def assembleLimitsSpec : ChangeSpec := { name := "assembleLimits", fn := fun _ => fun
  | [d] => { results := [.lit (.bool true)], args := [d] }
  | _ => none }
def assembleLimitsRow : OpenClaim := { program := "ytfheeghkajihoaadoor", sum := "59423b0786fad0e29bbe429d6e905619fd701e00f309bc69d25f6adcb848c72f", func := "kaudit/kauditlaw22.AssembleLimits", spec := "assembleLimits", inPlace := ["slices.overlaps[kaudit/api.Event]"], unfollowed := true, recurses := true, named := ["kaudit/record.types"], apart := false, laid := [("kaudit/record.types", laid_kaudit_record_types)] }
def AssembleLimitsSaid : Prop := assembleLimitsRow.holds Tryd.pinned (OpenSpec.ofChange assembleLimitsSpec)

/-- ITS FALSE NEIGHBOUR: 'it returns false'. Refute it at one input. -/
def assembleLimitsWrong : ChangeSpec := { name := "assembleLimits", fn := fun _ => fun
  | [d] => { results := [.lit (.bool false)], args := [d] }
  | _ => none }
def AssembleLimitsWrongFalsely : Prop := assembleLimitsRow.holds Tryd.pinned (OpenSpec.ofChange assembleLimitsWrong)

/-- 'kauditlaw22.AssembleFeeds': WHATEVER THE INPUT: true; the input reads as it did. -/
def assembleFeedsSpec : ChangeSpec := { name := "assembleFeeds", fn := fun _ => fun
  | [d1, d2] => { results := [.lit (.bool true)], args := [d1, d2] }
  | _ => none }
def assembleFeedsRow : OpenClaim := { program := "ytfheeghkajihoaadoor", sum := "59423b0786fad0e29bbe429d6e905619fd701e00f309bc69d25f6adcb848c72f", func := "kaudit/kauditlaw22.AssembleFeeds", spec := "assembleFeeds", inPlace := ["slices.overlaps[kaudit/api.Event]"], unfollowed := true, recurses := true, named := ["kaudit/record.types"], apart := false, laid := [("kaudit/record.types", laid_kaudit_record_types)] }
def AssembleFeedsSaid : Prop := assembleFeedsRow.holds Tryd.pinned (OpenSpec.ofChange assembleFeedsSpec)

/-- ITS FALSE NEIGHBOUR: 'it returns false'. Refute it at one input. -/
def assembleFeedsWrong : ChangeSpec := { name := "assembleFeeds", fn := fun _ => fun
  | [d1, d2] => { results := [.lit (.bool false)], args := [d1, d2] }
  | _ => none }
def AssembleFeedsWrongFalsely : Prop := assembleFeedsRow.holds Tryd.pinned (OpenSpec.ofChange assembleFeedsWrong)

/-- 'kauditlaw22.AssembleRaw': WHATEVER THE INPUT: true; the input reads as it did. -/
def assembleRawSpec : ChangeSpec := { name := "assembleRaw", fn := fun _ => fun
  | [d1, d2] => { results := [.lit (.bool true)], args := [d1, d2] }
  | _ => none }
def assembleRawRow : OpenClaim := { program := "ytfheeghkajihoaadoor", sum := "59423b0786fad0e29bbe429d6e905619fd701e00f309bc69d25f6adcb848c72f", func := "kaudit/kauditlaw22.AssembleRaw", spec := "assembleRaw", inPlace := ["slices.overlaps[kaudit/api.Event]"], unfollowed := true, recurses := true, named := ["kaudit/record.types"], apart := false, laid := [("kaudit/record.types", laid_kaudit_record_types)] }
def AssembleRawSaid : Prop := assembleRawRow.holds Tryd.pinned (OpenSpec.ofChange assembleRawSpec)

/-- ITS FALSE NEIGHBOUR: 'it returns false'. Refute it at one input. -/
def assembleRawWrong : ChangeSpec := { name := "assembleRaw", fn := fun _ => fun
  | [d1, d2] => { results := [.lit (.bool false)], args := [d1, d2] }
  | _ => none }
def AssembleRawWrongFalsely : Prop := assembleRawRow.holds Tryd.pinned (OpenSpec.ofChange assembleRawWrong)

/-- 'kauditlaw22.AssembleAscends': WHATEVER THE INPUT: true; the input reads as it did. -/
def assembleAscendsSpec : ChangeSpec := { name := "assembleAscends", fn := fun _ => fun
  | [d] => { results := [.lit (.bool true)], args := [d] }
  | _ => none }
def assembleAscendsRow : OpenClaim := { program := "ytfheeghkajihoaadoor", sum := "59423b0786fad0e29bbe429d6e905619fd701e00f309bc69d25f6adcb848c72f", func := "kaudit/kauditlaw22.AssembleAscends", spec := "assembleAscends", inPlace := ["slices.overlaps[kaudit/api.Event]"], unfollowed := true, recurses := true, named := ["kaudit/record.types"], apart := false, laid := [("kaudit/record.types", laid_kaudit_record_types)] }
def AssembleAscendsSaid : Prop := assembleAscendsRow.holds Tryd.pinned (OpenSpec.ofChange assembleAscendsSpec)

/-- ITS FALSE NEIGHBOUR: 'it returns false'. Refute it at one input. -/
def assembleAscendsWrong : ChangeSpec := { name := "assembleAscends", fn := fun _ => fun
  | [d] => { results := [.lit (.bool false)], args := [d] }
  | _ => none }
def AssembleAscendsWrongFalsely : Prop := assembleAscendsRow.holds Tryd.pinned (OpenSpec.ofChange assembleAscendsWrong)

/- THE SECOND FORM. 'bulk': how many values and letters a reading holds, each counted each time it is reached (what is shared counts as often as it is met; a slice's spare places count too). A statement '..UptoSaid' is the law's where the arguments, and the package variables that the reading takes, are together of bulk at most 1048576: NARROWER than '..Said'. Prove '..Said' where nothing that the law and all that it calls make is longer than what came in: it says more and counts as full. Else prove '..UptoSaid'. A law counts once. -/
mutual
def uptoBulk {H : Type} : DataW H → Nat
  | .lit (.string bytes) => bytes.length + 1
  | .lit _ => 1
  | .nil => 1
  | .ptr d => uptoBulk d + 1
  | .slice elems spare => uptoBulkAll elems + uptoBulkAll spare + 1
  | .agg parts => uptoBulkAll parts + 1
  | .iface _ d => uptoBulk d + 1
  | .map entries => uptoBulkEntries entries + 1
  | .held _ => 1
def uptoBulkAll {H : Type} : List (DataW H) → Nat
  | [] => 0
  | d :: r => uptoBulk d + uptoBulkAll r
def uptoBulkEntries {H : Type} : List (Lit × DataW H) → Nat
  | [] => 0
  | x :: r => uptoBulkEntry x + uptoBulkEntries r
def uptoBulkEntry {H : Type} : Lit × DataW H → Nat
  | (.string bytes, d) => bytes.length + uptoBulk d + 1
  | (_, d) => uptoBulk d + 1
 end
def uptoSmall : (H : Type) → List (DataW H) → Bool := fun _ ds => decide (uptoBulkAll ds ≤ 1048576)
def OpenSpec.upto (s : _root_.Go.ChangeSpec) : _root_.Go.OpenSpec := { _root_.Go.OpenSpec.ofChange s with cond := some uptoSmall }

/-- 'kauditlaw22.AssembleComplete', WHERE WHAT IT READS IS OF BULK AT MOST 1048576: true; the input reads as it did. -/
def assembleCompleteUptoRow : OpenClaim := { program := "ytfheeghkajihoaadoor", sum := "59423b0786fad0e29bbe429d6e905619fd701e00f309bc69d25f6adcb848c72f", func := "kaudit/kauditlaw22.AssembleComplete", spec := "assembleComplete", inPlace := ["slices.overlaps[kaudit/api.Event]"], unfollowed := true, recurses := true, named := ["kaudit/record.types"], apart := false, laid := [("kaudit/record.types", laid_kaudit_record_types)], narrowed := true }
def AssembleCompleteUptoSaid : Prop := assembleCompleteUptoRow.holds Tryd.pinned (OpenSpec.upto assembleCompleteSpec)

/-- 'kauditlaw22.AssembleDivides', WHERE WHAT IT READS IS OF BULK AT MOST 1048576: true; the input reads as it did. -/
def assembleDividesUptoRow : OpenClaim := { program := "ytfheeghkajihoaadoor", sum := "59423b0786fad0e29bbe429d6e905619fd701e00f309bc69d25f6adcb848c72f", func := "kaudit/kauditlaw22.AssembleDivides", spec := "assembleDivides", inPlace := ["slices.overlaps[kaudit/api.Event]"], unfollowed := true, recurses := true, named := ["kaudit/record.types"], apart := false, laid := [("kaudit/record.types", laid_kaudit_record_types)], narrowed := true }
def AssembleDividesUptoSaid : Prop := assembleDividesUptoRow.holds Tryd.pinned (OpenSpec.upto assembleDividesSpec)

/-- 'kauditlaw22.AssembleLimits', WHERE WHAT IT READS IS OF BULK AT MOST 1048576: true; the input reads as it did. -/
def assembleLimitsUptoRow : OpenClaim := { program := "ytfheeghkajihoaadoor", sum := "59423b0786fad0e29bbe429d6e905619fd701e00f309bc69d25f6adcb848c72f", func := "kaudit/kauditlaw22.AssembleLimits", spec := "assembleLimits", inPlace := ["slices.overlaps[kaudit/api.Event]"], unfollowed := true, recurses := true, named := ["kaudit/record.types"], apart := false, laid := [("kaudit/record.types", laid_kaudit_record_types)], narrowed := true }
def AssembleLimitsUptoSaid : Prop := assembleLimitsUptoRow.holds Tryd.pinned (OpenSpec.upto assembleLimitsSpec)

/-- 'kauditlaw22.AssembleFeeds', WHERE WHAT IT READS IS OF BULK AT MOST 1048576: true; the input reads as it did. -/
def assembleFeedsUptoRow : OpenClaim := { program := "ytfheeghkajihoaadoor", sum := "59423b0786fad0e29bbe429d6e905619fd701e00f309bc69d25f6adcb848c72f", func := "kaudit/kauditlaw22.AssembleFeeds", spec := "assembleFeeds", inPlace := ["slices.overlaps[kaudit/api.Event]"], unfollowed := true, recurses := true, named := ["kaudit/record.types"], apart := false, laid := [("kaudit/record.types", laid_kaudit_record_types)], narrowed := true }
def AssembleFeedsUptoSaid : Prop := assembleFeedsUptoRow.holds Tryd.pinned (OpenSpec.upto assembleFeedsSpec)

/-- 'kauditlaw22.AssembleRaw', WHERE WHAT IT READS IS OF BULK AT MOST 1048576: true; the input reads as it did. -/
def assembleRawUptoRow : OpenClaim := { program := "ytfheeghkajihoaadoor", sum := "59423b0786fad0e29bbe429d6e905619fd701e00f309bc69d25f6adcb848c72f", func := "kaudit/kauditlaw22.AssembleRaw", spec := "assembleRaw", inPlace := ["slices.overlaps[kaudit/api.Event]"], unfollowed := true, recurses := true, named := ["kaudit/record.types"], apart := false, laid := [("kaudit/record.types", laid_kaudit_record_types)], narrowed := true }
def AssembleRawUptoSaid : Prop := assembleRawUptoRow.holds Tryd.pinned (OpenSpec.upto assembleRawSpec)

/-- 'kauditlaw22.AssembleAscends', WHERE WHAT IT READS IS OF BULK AT MOST 1048576: true; the input reads as it did. -/
def assembleAscendsUptoRow : OpenClaim := { program := "ytfheeghkajihoaadoor", sum := "59423b0786fad0e29bbe429d6e905619fd701e00f309bc69d25f6adcb848c72f", func := "kaudit/kauditlaw22.AssembleAscends", spec := "assembleAscends", inPlace := ["slices.overlaps[kaudit/api.Event]"], unfollowed := true, recurses := true, named := ["kaudit/record.types"], apart := false, laid := [("kaudit/record.types", laid_kaudit_record_types)], narrowed := true }
def AssembleAscendsUptoSaid : Prop := assembleAscendsUptoRow.holds Tryd.pinned (OpenSpec.upto assembleAscendsSpec)

end Rows
end Go.Proofs.YtfheeghkajihoaaDoor
