/-
  DERIVED. GIVEN WITH THE SEED: THE CARDS: each row of YtpnofnmecjagcaaDoorRows.lean that lists a variable, with what it lists TIED to the program's text (the seventh form; the later family's looks); each row that meets fmt, with fmt's text TOLD by the authors' own Lean function (tested against real Go, not proved from fmt's source: count such statements apart). THE CARD IS WHAT COUNTS. Prove the row's statement (the work); the ties are given (YtpnofnmecjagcaaDoorTie.lean); close each card by the builder's one call (the guide's Derived/Test/ToyasCard.lean, 'card_holds'). Laid BY PROGRAM, IN A SANDBOX (cutbox-door.mjs). By AI agents, Wed Nov 11 2026. No macro, syntax, notation, axiom, sorry.
-/
import Derived.Test.YtpnofnmecjagcaaDoorRows
import GoSem.ClaimSeven
namespace Go.Proofs.YtpnofnmecjagcaaDoor
namespace Rows

/-- THE TIED CARD OF 'decorumlaw05.UrlParts'. -/
def urlPartsCard : Claim7 := { stood := { row := urlPartsRow, standIns := [], harness := (true, "9de7ab58b9b08a48fcd6647d2a63663687beda2c8ad1c56c68dd5dcbf77dd477"), looks := true }, kinds := [], alts := [], laidByText := true, laidKinds := [.data, .data, .data, .data, .sentinel, .sentinel, .pinned], laidTests := true, laidLooks := .later }
def UrlPartsCardSaid : Prop := Claim7.holds Tryd.pinned (.plain (OpenSpec.ofChange urlPartsSpec)) urlPartsCard

/-- THE TIED CARD OF 'decorumlaw05.UrlCleans'. -/
def urlCleansCard : Claim7 := { stood := { row := urlCleansRow, standIns := [], harness := (true, "9de7ab58b9b08a48fcd6647d2a63663687beda2c8ad1c56c68dd5dcbf77dd477"), looks := true }, kinds := [], alts := [], laidByText := true, laidKinds := [.data, .data, .data, .data, .sentinel, .sentinel, .pinned], laidTests := true, laidLooks := .later }
def UrlCleansCardSaid : Prop := Claim7.holds Tryd.pinned (.plain (OpenSpec.ofChange urlCleansSpec)) urlCleansCard

/-- THE TIED CARD OF 'decorumlaw05.UrlAlike'. -/
def urlAlikeCard : Claim7 := { stood := { row := urlAlikeRow, standIns := [], harness := (true, "9de7ab58b9b08a48fcd6647d2a63663687beda2c8ad1c56c68dd5dcbf77dd477"), looks := true }, kinds := [], alts := [], laidByText := true, laidKinds := [.data, .data, .data, .data, .sentinel, .sentinel, .pinned], laidTests := true, laidLooks := .later }
def UrlAlikeCardSaid : Prop := Claim7.holds Tryd.pinned (.plain (OpenSpec.ofChange urlAlikeSpec)) urlAlikeCard

/-- THE TIED CARD OF 'decorumlaw05.UrlKeys'. -/
def urlKeysCard : Claim7 := { stood := { row := urlKeysRow, standIns := [], harness := (true, "9de7ab58b9b08a48fcd6647d2a63663687beda2c8ad1c56c68dd5dcbf77dd477"), looks := true }, kinds := [], alts := [], laidByText := true, laidKinds := [.data, .data, .data, .data, .sentinel, .sentinel, .pinned], laidTests := true, laidLooks := .later }
def UrlKeysCardSaid : Prop := Claim7.holds Tryd.pinned (.plain (OpenSpec.ofChange urlKeysSpec)) urlKeysCard

/-- THE SECOND FORM's CARD OF 'decorumlaw05.UrlParts'. -/
def urlPartsUptoCard : Claim7 := { stood := { row := urlPartsUptoRow, standIns := [], harness := (true, "9de7ab58b9b08a48fcd6647d2a63663687beda2c8ad1c56c68dd5dcbf77dd477"), looks := true }, kinds := [], alts := [], laidByText := true, laidKinds := [.data, .data, .data, .data, .sentinel, .sentinel, .pinned], laidTests := true, laidLooks := .later }
def UrlPartsUptoCardSaid : Prop := Claim7.holds Tryd.pinned (.plain (OpenSpec.upto urlPartsSpec)) urlPartsUptoCard

/-- THE SECOND FORM's CARD OF 'decorumlaw05.UrlCleans'. -/
def urlCleansUptoCard : Claim7 := { stood := { row := urlCleansUptoRow, standIns := [], harness := (true, "9de7ab58b9b08a48fcd6647d2a63663687beda2c8ad1c56c68dd5dcbf77dd477"), looks := true }, kinds := [], alts := [], laidByText := true, laidKinds := [.data, .data, .data, .data, .sentinel, .sentinel, .pinned], laidTests := true, laidLooks := .later }
def UrlCleansUptoCardSaid : Prop := Claim7.holds Tryd.pinned (.plain (OpenSpec.upto urlCleansSpec)) urlCleansUptoCard

/-- THE SECOND FORM's CARD OF 'decorumlaw05.UrlAlike'. -/
def urlAlikeUptoCard : Claim7 := { stood := { row := urlAlikeUptoRow, standIns := [], harness := (true, "9de7ab58b9b08a48fcd6647d2a63663687beda2c8ad1c56c68dd5dcbf77dd477"), looks := true }, kinds := [], alts := [], laidByText := true, laidKinds := [.data, .data, .data, .data, .sentinel, .sentinel, .pinned], laidTests := true, laidLooks := .later }
def UrlAlikeUptoCardSaid : Prop := Claim7.holds Tryd.pinned (.plain (OpenSpec.upto urlAlikeSpec)) urlAlikeUptoCard

/-- THE SECOND FORM's CARD OF 'decorumlaw05.UrlKeys'. -/
def urlKeysUptoCard : Claim7 := { stood := { row := urlKeysUptoRow, standIns := [], harness := (true, "9de7ab58b9b08a48fcd6647d2a63663687beda2c8ad1c56c68dd5dcbf77dd477"), looks := true }, kinds := [], alts := [], laidByText := true, laidKinds := [.data, .data, .data, .data, .sentinel, .sentinel, .pinned], laidTests := true, laidLooks := .later }
def UrlKeysUptoCardSaid : Prop := Claim7.holds Tryd.pinned (.plain (OpenSpec.upto urlKeysSpec)) urlKeysUptoCard
end Rows
end Go.Proofs.YtpnofnmecjagcaaDoor
