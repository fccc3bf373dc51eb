/-
  DERIVED. GIVEN WITH THE SEED: THE CARDS: each row of YtklinldidfdnjaaDoorRows.lean that lists a variable, with what it lists TIED to the program's text (the seventh form; the later family's looks); each row that meets fmt, with fmt's text TOLD by the authors' own Lean function (tested against real Go, not proved from fmt's source: count such statements apart). THE CARD IS WHAT COUNTS. Prove the row's statement (the work); the ties are given (YtklinldidfdnjaaDoorTie.lean); close each card by the builder's one call (the guide's Derived/Test/ToyasCard.lean, 'card_holds'). Laid BY PROGRAM, IN A SANDBOX (cutbox-door.mjs). By AI agents, Wed Nov 11 2026. No macro, syntax, notation, axiom, sorry.
-/
import Derived.Test.YtklinldidfdnjaaDoorRows
import GoSem.ClaimSeven
namespace Go.Proofs.YtklinldidfdnjaaDoor
namespace Rows

/-- THE TIED CARD OF 'laws.FnExactReadKey'. -/
def fnExactReadKeyCard : Claim7 := { stood := { row := fnExactReadKeyRow, standIns := [], harness := (true, "7a6b59a1183b5a456f6372656f68a842b73a0f25411b3e283791f46512b5b219"), looks := true }, kinds := [], alts := [], laidByText := true, laidKinds := [.data, .pinned], laidTests := true, laidLooks := .later }
def FnExactReadKeyCardSaid : Prop := Claim7.holds Tryd.pinned (.plain (OpenSpec.ofChange fnExactReadKeySpec)) fnExactReadKeyCard

/-- THE TIED CARD OF 'laws.FnExactCompareVersions'. -/
def fnExactCompareVersionsCard : Claim7 := { stood := { row := fnExactCompareVersionsRow, standIns := [], harness := (true, "7a6b59a1183b5a456f6372656f68a842b73a0f25411b3e283791f46512b5b219"), looks := true }, kinds := [], alts := [], laidByText := true, laidKinds := [.data, .data, .data, .sentinel, .sentinel], laidTests := true, laidLooks := .later }
def FnExactCompareVersionsCardSaid : Prop := Claim7.holds Tryd.pinned (.plain (OpenSpec.ofChange fnExactCompareVersionsSpec)) fnExactCompareVersionsCard

/-- THE TIED CARD OF 'laws.FnExactVersionOk'. -/
def fnExactVersionOkCard : Claim7 := { stood := { row := fnExactVersionOkRow, standIns := [], harness := (true, "7a6b59a1183b5a456f6372656f68a842b73a0f25411b3e283791f46512b5b219"), looks := true }, kinds := [], alts := [], laidByText := true, laidKinds := [.data, .data, .data, .sentinel, .sentinel], laidTests := true, laidLooks := .later }
def FnExactVersionOkCardSaid : Prop := Claim7.holds Tryd.pinned (.plain (OpenSpec.ofChange fnExactVersionOkSpec)) fnExactVersionOkCard

/-- THE TIED CARD OF 'laws.FnExactValueOk'. -/
def fnExactValueOkCard : Claim7 := { stood := { row := fnExactValueOkRow, standIns := [], harness := (true, "7a6b59a1183b5a456f6372656f68a842b73a0f25411b3e283791f46512b5b219"), looks := true }, kinds := [], alts := [], laidByText := true, laidKinds := [.data, .pinned], laidTests := true, laidLooks := .later }
def FnExactValueOkCardSaid : Prop := Claim7.holds Tryd.pinned (.plain (OpenSpec.ofChange fnExactValueOkSpec)) fnExactValueOkCard

/-- THE TIED CARD OF 'laws.FnExactManifestText'. -/
def fnExactManifestTextCard : Claim7 := { stood := { row := fnExactManifestTextRow, standIns := [], harness := (true, "7a6b59a1183b5a456f6372656f68a842b73a0f25411b3e283791f46512b5b219"), looks := true }, kinds := [], alts := [], laidByText := true, laidKinds := [.data, .data, .data], laidTests := true, laidLooks := .later }
def FnExactManifestTextCardSaid : Prop := Claim7.holds Tryd.pinned (.plain (OpenSpec.ofChange fnExactManifestTextSpec)) fnExactManifestTextCard

/-- THE TIED CARD OF 'laws.FnExactTreeOk'. -/
def fnExactTreeOkCard : Claim7 := { stood := { row := fnExactTreeOkRow, standIns := [], harness := (true, "7a6b59a1183b5a456f6372656f68a842b73a0f25411b3e283791f46512b5b219"), looks := true }, kinds := [], alts := [], laidByText := true, laidKinds := [.data, .pinned], laidTests := true, laidLooks := .later }
def FnExactTreeOkCardSaid : Prop := Claim7.holds Tryd.pinned (.plain (OpenSpec.ofChange fnExactTreeOkSpec)) fnExactTreeOkCard

/-- THE TIED CARD OF 'laws.FnExactFindEntry'. -/
def fnExactFindEntryCard : Claim7 := { stood := { row := fnExactFindEntryRow, standIns := [], harness := (true, "7a6b59a1183b5a456f6372656f68a842b73a0f25411b3e283791f46512b5b219"), looks := true }, kinds := [], alts := [], laidByText := true, laidKinds := [.data, .pinned], laidTests := true, laidLooks := .later }
def FnExactFindEntryCardSaid : Prop := Claim7.holds Tryd.pinned (.plain (OpenSpec.ofChange fnExactFindEntrySpec)) fnExactFindEntryCard

/-- THE SECOND FORM's CARD OF 'laws.FnExactReadKey'. -/
def fnExactReadKeyUptoCard : Claim7 := { stood := { row := fnExactReadKeyUptoRow, standIns := [], harness := (true, "7a6b59a1183b5a456f6372656f68a842b73a0f25411b3e283791f46512b5b219"), looks := true }, kinds := [], alts := [], laidByText := true, laidKinds := [.data, .pinned], laidTests := true, laidLooks := .later }
def FnExactReadKeyUptoCardSaid : Prop := Claim7.holds Tryd.pinned (.plain (OpenSpec.upto fnExactReadKeySpec)) fnExactReadKeyUptoCard

/-- THE SECOND FORM's CARD OF 'laws.FnExactCompareVersions'. -/
def fnExactCompareVersionsUptoCard : Claim7 := { stood := { row := fnExactCompareVersionsUptoRow, standIns := [], harness := (true, "7a6b59a1183b5a456f6372656f68a842b73a0f25411b3e283791f46512b5b219"), looks := true }, kinds := [], alts := [], laidByText := true, laidKinds := [.data, .data, .data, .sentinel, .sentinel], laidTests := true, laidLooks := .later }
def FnExactCompareVersionsUptoCardSaid : Prop := Claim7.holds Tryd.pinned (.plain (OpenSpec.upto fnExactCompareVersionsSpec)) fnExactCompareVersionsUptoCard

/-- THE SECOND FORM's CARD OF 'laws.FnExactVersionOk'. -/
def fnExactVersionOkUptoCard : Claim7 := { stood := { row := fnExactVersionOkUptoRow, standIns := [], harness := (true, "7a6b59a1183b5a456f6372656f68a842b73a0f25411b3e283791f46512b5b219"), looks := true }, kinds := [], alts := [], laidByText := true, laidKinds := [.data, .data, .data, .sentinel, .sentinel], laidTests := true, laidLooks := .later }
def FnExactVersionOkUptoCardSaid : Prop := Claim7.holds Tryd.pinned (.plain (OpenSpec.upto fnExactVersionOkSpec)) fnExactVersionOkUptoCard

/-- THE SECOND FORM's CARD OF 'laws.FnExactValueOk'. -/
def fnExactValueOkUptoCard : Claim7 := { stood := { row := fnExactValueOkUptoRow, standIns := [], harness := (true, "7a6b59a1183b5a456f6372656f68a842b73a0f25411b3e283791f46512b5b219"), looks := true }, kinds := [], alts := [], laidByText := true, laidKinds := [.data, .pinned], laidTests := true, laidLooks := .later }
def FnExactValueOkUptoCardSaid : Prop := Claim7.holds Tryd.pinned (.plain (OpenSpec.upto fnExactValueOkSpec)) fnExactValueOkUptoCard

/-- THE SECOND FORM's CARD OF 'laws.FnExactManifestText'. -/
def fnExactManifestTextUptoCard : Claim7 := { stood := { row := fnExactManifestTextUptoRow, standIns := [], harness := (true, "7a6b59a1183b5a456f6372656f68a842b73a0f25411b3e283791f46512b5b219"), looks := true }, kinds := [], alts := [], laidByText := true, laidKinds := [.data, .data, .data], laidTests := true, laidLooks := .later }
def FnExactManifestTextUptoCardSaid : Prop := Claim7.holds Tryd.pinned (.plain (OpenSpec.upto fnExactManifestTextSpec)) fnExactManifestTextUptoCard

/-- THE SECOND FORM's CARD OF 'laws.FnExactTreeOk'. -/
def fnExactTreeOkUptoCard : Claim7 := { stood := { row := fnExactTreeOkUptoRow, standIns := [], harness := (true, "7a6b59a1183b5a456f6372656f68a842b73a0f25411b3e283791f46512b5b219"), looks := true }, kinds := [], alts := [], laidByText := true, laidKinds := [.data, .pinned], laidTests := true, laidLooks := .later }
def FnExactTreeOkUptoCardSaid : Prop := Claim7.holds Tryd.pinned (.plain (OpenSpec.upto fnExactTreeOkSpec)) fnExactTreeOkUptoCard

/-- THE SECOND FORM's CARD OF 'laws.FnExactFindEntry'. -/
def fnExactFindEntryUptoCard : Claim7 := { stood := { row := fnExactFindEntryUptoRow, standIns := [], harness := (true, "7a6b59a1183b5a456f6372656f68a842b73a0f25411b3e283791f46512b5b219"), looks := true }, kinds := [], alts := [], laidByText := true, laidKinds := [.data, .pinned], laidTests := true, laidLooks := .later }
def FnExactFindEntryUptoCardSaid : Prop := Claim7.holds Tryd.pinned (.plain (OpenSpec.upto fnExactFindEntrySpec)) fnExactFindEntryUptoCard
end Rows
end Go.Proofs.YtklinldidfdnjaaDoor
