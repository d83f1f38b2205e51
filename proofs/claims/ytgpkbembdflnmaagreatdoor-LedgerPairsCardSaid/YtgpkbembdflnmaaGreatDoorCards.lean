/-
  DERIVED. GIVEN WITH THE SEED: THE CARDS: each row of YtgpkbembdflnmaaGreatDoorRows.lean that lists a variable, with what it lists TIED to the program's text (the seventh form; the later family's looks); each row that meets fmt, with fmt's text TOLD by the authors' own Lean function (tested against real Go, not proved from fmt's source: count such statements apart). THE CARD IS WHAT COUNTS. Prove the row's statement (the work); the ties are given (YtgpkbembdflnmaaGreatDoorTie.lean); close each card by the builder's one call (the guide's Derived/Test/ToyasCard.lean, 'card_holds'). Laid BY PROGRAM, IN A SANDBOX (cutbox-door.mjs). By AI agents, Wed Nov 11 2026. No macro, syntax, notation, axiom, sorry.
-/
import Derived.Test.YtgpkbembdflnmaaGreatDoorRows
import GoSem.ClaimSeven
namespace Go.Proofs.YtgpkbembdflnmaaGreatDoor
namespace Rows

/-- THE TIED CARD OF 'noonbelllaw19.LedgerPairs'. -/
def ledgerPairsCard : Claim7 := { stood := { row := ledgerPairsRow, standIns := [], harness := (true, "f0eaf064694f4c68329a02004fac4342dfd7e99cb4f99fd780febd48d1118f35"), looks := true }, kinds := [], alts := [], laidByText := true, laidKinds := [.data, .data, .data, .data, .sentinel, .sentinel, .pinned], laidTests := true, laidLooks := .later }
def LedgerPairsCardSaid : Prop := Claim7.holds Tryz.pinned (.plain (OpenSpec.ofChange ledgerPairsSpec)) ledgerPairsCard

/-- THE TIED CARD OF 'noonbelllaw19.LedgerSums'. -/
def ledgerSumsCard : Claim7 := { stood := { row := ledgerSumsRow, standIns := [], harness := (true, "f0eaf064694f4c68329a02004fac4342dfd7e99cb4f99fd780febd48d1118f35"), looks := true }, kinds := [], alts := [], laidByText := true, laidKinds := [.data, .data, .data, .data, .sentinel, .sentinel, .pinned], laidTests := true, laidLooks := .later }
def LedgerSumsCardSaid : Prop := Claim7.holds Tryz.pinned (.plain (OpenSpec.ofChange ledgerSumsSpec)) ledgerSumsCard

/-- THE TIED CARD OF 'noonbelllaw19.LedgerOrder'. -/
def ledgerOrderCard : Claim7 := { stood := { row := ledgerOrderRow, standIns := [], harness := (true, "f0eaf064694f4c68329a02004fac4342dfd7e99cb4f99fd780febd48d1118f35"), looks := true }, kinds := [], alts := [], laidByText := true, laidKinds := [.data, .data, .data, .data, .sentinel, .sentinel, .pinned], laidTests := true, laidLooks := .later }
def LedgerOrderCardSaid : Prop := Claim7.holds Tryz.pinned (.plain (OpenSpec.ofChange ledgerOrderSpec)) ledgerOrderCard

/-- THE TIED CARD OF 'noonbelllaw19.LedgerScript'. -/
def ledgerScriptCard : Claim7 := { stood := { row := ledgerScriptRow, standIns := [], harness := (true, "f0eaf064694f4c68329a02004fac4342dfd7e99cb4f99fd780febd48d1118f35"), looks := true }, kinds := [], alts := [], laidByText := true, laidKinds := [.data, .data, .data, .data, .sentinel, .sentinel, .pinned], laidTests := true, laidLooks := .later }
def LedgerScriptCardSaid : Prop := Claim7.holds Tryz.pinned (.plain (OpenSpec.ofChange ledgerScriptSpec)) ledgerScriptCard

/-- THE SECOND FORM's CARD OF 'noonbelllaw19.LedgerPairs'. -/
def ledgerPairsUptoCard : Claim7 := { stood := { row := ledgerPairsUptoRow, standIns := [], harness := (true, "f0eaf064694f4c68329a02004fac4342dfd7e99cb4f99fd780febd48d1118f35"), looks := true }, kinds := [], alts := [], laidByText := true, laidKinds := [.data, .data, .data, .data, .sentinel, .sentinel, .pinned], laidTests := true, laidLooks := .later }
def LedgerPairsUptoCardSaid : Prop := Claim7.holds Tryz.pinned (.plain (OpenSpec.upto ledgerPairsSpec)) ledgerPairsUptoCard

/-- THE SECOND FORM's CARD OF 'noonbelllaw19.LedgerSums'. -/
def ledgerSumsUptoCard : Claim7 := { stood := { row := ledgerSumsUptoRow, standIns := [], harness := (true, "f0eaf064694f4c68329a02004fac4342dfd7e99cb4f99fd780febd48d1118f35"), looks := true }, kinds := [], alts := [], laidByText := true, laidKinds := [.data, .data, .data, .data, .sentinel, .sentinel, .pinned], laidTests := true, laidLooks := .later }
def LedgerSumsUptoCardSaid : Prop := Claim7.holds Tryz.pinned (.plain (OpenSpec.upto ledgerSumsSpec)) ledgerSumsUptoCard

/-- THE SECOND FORM's CARD OF 'noonbelllaw19.LedgerOrder'. -/
def ledgerOrderUptoCard : Claim7 := { stood := { row := ledgerOrderUptoRow, standIns := [], harness := (true, "f0eaf064694f4c68329a02004fac4342dfd7e99cb4f99fd780febd48d1118f35"), looks := true }, kinds := [], alts := [], laidByText := true, laidKinds := [.data, .data, .data, .data, .sentinel, .sentinel, .pinned], laidTests := true, laidLooks := .later }
def LedgerOrderUptoCardSaid : Prop := Claim7.holds Tryz.pinned (.plain (OpenSpec.upto ledgerOrderSpec)) ledgerOrderUptoCard

/-- THE SECOND FORM's CARD OF 'noonbelllaw19.LedgerScript'. -/
def ledgerScriptUptoCard : Claim7 := { stood := { row := ledgerScriptUptoRow, standIns := [], harness := (true, "f0eaf064694f4c68329a02004fac4342dfd7e99cb4f99fd780febd48d1118f35"), looks := true }, kinds := [], alts := [], laidByText := true, laidKinds := [.data, .data, .data, .data, .sentinel, .sentinel, .pinned], laidTests := true, laidLooks := .later }
def LedgerScriptUptoCardSaid : Prop := Claim7.holds Tryz.pinned (.plain (OpenSpec.upto ledgerScriptSpec)) ledgerScriptUptoCard
end Rows
end Go.Proofs.YtgpkbembdflnmaaGreatDoor
