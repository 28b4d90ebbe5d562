/-
  DERIVED. GIVEN WITH THE SEED: THE CARDS: each row of YtcakicifgbnhcaaDoorRows.lean that lists a variable, with what it lists TIED to the program's text (the seventh form; the later family's looks); each row that meets fmt, with fmt's text TOLD by the authors' own Lean function (tested against real Go, not proved from fmt's source: count such statements apart). THE CARD IS WHAT COUNTS. Prove the row's statement (the work); the ties are given (YtcakicifgbnhcaaDoorTie.lean); close each card by the builder's one call (the guide's Derived/Test/ToyasCard.lean, 'card_holds'). Laid BY PROGRAM, IN A SANDBOX (cutbox-door.mjs). By AI agents, Wed Nov 11 2026. No macro, syntax, notation, axiom, sorry.
-/
import Derived.Test.YtcakicifgbnhcaaDoorRows
import GoSem.ClaimSeven
namespace Go.Proofs.YtcakicifgbnhcaaDoor
namespace Rows

/-- THE TIED CARD OF 'cashbooklaw04.CrcSums'. -/
def crcSumsCard : Claim7 := { stood := { row := crcSumsRow, standIns := [], harness := (true, "1dbda1dff182fa62a80edb763d598bfcaeb2537a42527f9d9082bc8afb0deede"), looks := false }, kinds := [], alts := [], laidByText := true, laidKinds := [.data], laidTests := true, laidLooks := .later }
def CrcSumsCardSaid : Prop := Claim7.holds Tryd.pinned (.plain (OpenSpec.ofChange crcSumsSpec)) crcSumsCard

/-- THE TIED CARD OF 'cashbooklaw04.CrcParts'. -/
def crcPartsCard : Claim7 := { stood := { row := crcPartsRow, standIns := [], harness := (true, "1dbda1dff182fa62a80edb763d598bfcaeb2537a42527f9d9082bc8afb0deede"), looks := false }, kinds := [], alts := [], laidByText := true, laidKinds := [.data], laidTests := true, laidLooks := .later }
def CrcPartsCardSaid : Prop := Claim7.holds Tryd.pinned (.plain (OpenSpec.ofChange crcPartsSpec)) crcPartsCard

/-- THE TIED CARD OF 'cashbooklaw04.CrcTold'. -/
def crcToldCard : Claim7 := { stood := { row := crcToldRow, standIns := [], harness := (true, "1dbda1dff182fa62a80edb763d598bfcaeb2537a42527f9d9082bc8afb0deede"), looks := false }, kinds := [], alts := [], laidByText := true, laidKinds := [.data], laidTests := true, laidLooks := .later }
def CrcToldCardSaid : Prop := Claim7.holds Tryd.pinned (.plain (OpenSpec.ofChange crcToldSpec)) crcToldCard

/-- THE TIED CARD OF 'cashbooklaw04.CrcLine'. -/
def crcLineCard : Claim7 := { stood := { row := crcLineRow, standIns := [], harness := (true, "1dbda1dff182fa62a80edb763d598bfcaeb2537a42527f9d9082bc8afb0deede"), looks := false }, kinds := [], alts := [], laidByText := true, laidKinds := [.data], laidTests := true, laidLooks := .later }
def CrcLineCardSaid : Prop := Claim7.holds Tryd.pinned (.plain (OpenSpec.ofChange crcLineSpec)) crcLineCard

/-- THE TIED CARD OF 'cashbooklaw06.PageSeals'. -/
def pageSealsCard : Claim7 := { stood := { row := pageSealsRow, standIns := [], harness := (true, "1dbda1dff182fa62a80edb763d598bfcaeb2537a42527f9d9082bc8afb0deede"), looks := false }, kinds := [], alts := [], laidByText := true, laidKinds := [.data], laidTests := true, laidLooks := .later }
def PageSealsCardSaid : Prop := Claim7.holds Tryd.pinned (.plain (OpenSpec.ofChange pageSealsSpec)) pageSealsCard

/-- THE TIED CARD OF 'cashbooklaw06.PageOpens'. -/
def pageOpensCard : Claim7 := { stood := { row := pageOpensRow, standIns := [], harness := (true, "1dbda1dff182fa62a80edb763d598bfcaeb2537a42527f9d9082bc8afb0deede"), looks := false }, kinds := [], alts := [], laidByText := true, laidKinds := [.data], laidTests := true, laidLooks := .later }
def PageOpensCardSaid : Prop := Claim7.holds Tryd.pinned (.plain (OpenSpec.ofChange pageOpensSpec)) pageOpensCard

/-- THE TIED CARD OF 'cashbooklaw06.PageTold'. -/
def pageToldCard : Claim7 := { stood := { row := pageToldRow, standIns := [], harness := (true, "1dbda1dff182fa62a80edb763d598bfcaeb2537a42527f9d9082bc8afb0deede"), looks := false }, kinds := [], alts := [], laidByText := true, laidKinds := [.data], laidTests := true, laidLooks := .later }
def PageToldCardSaid : Prop := Claim7.holds Tryd.pinned (.plain (OpenSpec.ofChange pageToldSpec)) pageToldCard

/-- THE TIED CARD OF 'cashbooklaw06.PageMoved'. -/
def pageMovedCard : Claim7 := { stood := { row := pageMovedRow, standIns := [], harness := (true, "1dbda1dff182fa62a80edb763d598bfcaeb2537a42527f9d9082bc8afb0deede"), looks := false }, kinds := [], alts := [], laidByText := true, laidKinds := [.data], laidTests := true, laidLooks := .later }
def PageMovedCardSaid : Prop := Claim7.holds Tryd.pinned (.plain (OpenSpec.ofChange pageMovedSpec)) pageMovedCard

/-- THE TIED CARD OF 'cashbooklaw07.SuperBack'. -/
def superBackCard : Claim7 := { stood := { row := superBackRow, standIns := [], harness := (true, "1dbda1dff182fa62a80edb763d598bfcaeb2537a42527f9d9082bc8afb0deede"), looks := false }, kinds := [], alts := [], laidByText := true, laidKinds := [.data], laidTests := true, laidLooks := .later }
def SuperBackCardSaid : Prop := Claim7.holds Tryd.pinned (.plain (OpenSpec.ofChange superBackSpec)) superBackCard

/-- THE TIED CARD OF 'cashbooklaw07.SuperReads'. -/
def superReadsCard : Claim7 := { stood := { row := superReadsRow, standIns := [], harness := (true, "1dbda1dff182fa62a80edb763d598bfcaeb2537a42527f9d9082bc8afb0deede"), looks := false }, kinds := [], alts := [], laidByText := true, laidKinds := [.data], laidTests := true, laidLooks := .later }
def SuperReadsCardSaid : Prop := Claim7.holds Tryd.pinned (.plain (OpenSpec.ofChange superReadsSpec)) superReadsCard

/-- THE TIED CARD OF 'cashbooklaw07.SuperNewest'. -/
def superNewestCard : Claim7 := { stood := { row := superNewestRow, standIns := [], harness := (true, "1dbda1dff182fa62a80edb763d598bfcaeb2537a42527f9d9082bc8afb0deede"), looks := false }, kinds := [], alts := [], laidByText := true, laidKinds := [.data], laidTests := true, laidLooks := .later }
def SuperNewestCardSaid : Prop := Claim7.holds Tryd.pinned (.plain (OpenSpec.ofChange superNewestSpec)) superNewestCard

/-- THE TIED CARD OF 'cashbooklaw07.SuperTurns'. -/
def superTurnsCard : Claim7 := { stood := { row := superTurnsRow, standIns := [], harness := (true, "1dbda1dff182fa62a80edb763d598bfcaeb2537a42527f9d9082bc8afb0deede"), looks := false }, kinds := [], alts := [], laidByText := true, laidKinds := [.data], laidTests := true, laidLooks := .later }
def SuperTurnsCardSaid : Prop := Claim7.holds Tryd.pinned (.plain (OpenSpec.ofChange superTurnsSpec)) superTurnsCard

/-- THE SECOND FORM's CARD OF 'cashbooklaw04.CrcSums'. -/
def crcSumsUptoCard : Claim7 := { stood := { row := crcSumsUptoRow, standIns := [], harness := (true, "1dbda1dff182fa62a80edb763d598bfcaeb2537a42527f9d9082bc8afb0deede"), looks := false }, kinds := [], alts := [], laidByText := true, laidKinds := [.data], laidTests := true, laidLooks := .later }
def CrcSumsUptoCardSaid : Prop := Claim7.holds Tryd.pinned (.plain (OpenSpec.upto crcSumsSpec)) crcSumsUptoCard

/-- THE SECOND FORM's CARD OF 'cashbooklaw04.CrcParts'. -/
def crcPartsUptoCard : Claim7 := { stood := { row := crcPartsUptoRow, standIns := [], harness := (true, "1dbda1dff182fa62a80edb763d598bfcaeb2537a42527f9d9082bc8afb0deede"), looks := false }, kinds := [], alts := [], laidByText := true, laidKinds := [.data], laidTests := true, laidLooks := .later }
def CrcPartsUptoCardSaid : Prop := Claim7.holds Tryd.pinned (.plain (OpenSpec.upto crcPartsSpec)) crcPartsUptoCard

/-- THE SECOND FORM's CARD OF 'cashbooklaw04.CrcTold'. -/
def crcToldUptoCard : Claim7 := { stood := { row := crcToldUptoRow, standIns := [], harness := (true, "1dbda1dff182fa62a80edb763d598bfcaeb2537a42527f9d9082bc8afb0deede"), looks := false }, kinds := [], alts := [], laidByText := true, laidKinds := [.data], laidTests := true, laidLooks := .later }
def CrcToldUptoCardSaid : Prop := Claim7.holds Tryd.pinned (.plain (OpenSpec.upto crcToldSpec)) crcToldUptoCard

/-- THE SECOND FORM's CARD OF 'cashbooklaw04.CrcLine'. -/
def crcLineUptoCard : Claim7 := { stood := { row := crcLineUptoRow, standIns := [], harness := (true, "1dbda1dff182fa62a80edb763d598bfcaeb2537a42527f9d9082bc8afb0deede"), looks := false }, kinds := [], alts := [], laidByText := true, laidKinds := [.data], laidTests := true, laidLooks := .later }
def CrcLineUptoCardSaid : Prop := Claim7.holds Tryd.pinned (.plain (OpenSpec.upto crcLineSpec)) crcLineUptoCard

/-- THE SECOND FORM's CARD OF 'cashbooklaw06.PageSeals'. -/
def pageSealsUptoCard : Claim7 := { stood := { row := pageSealsUptoRow, standIns := [], harness := (true, "1dbda1dff182fa62a80edb763d598bfcaeb2537a42527f9d9082bc8afb0deede"), looks := false }, kinds := [], alts := [], laidByText := true, laidKinds := [.data], laidTests := true, laidLooks := .later }
def PageSealsUptoCardSaid : Prop := Claim7.holds Tryd.pinned (.plain (OpenSpec.upto pageSealsSpec)) pageSealsUptoCard

/-- THE SECOND FORM's CARD OF 'cashbooklaw06.PageOpens'. -/
def pageOpensUptoCard : Claim7 := { stood := { row := pageOpensUptoRow, standIns := [], harness := (true, "1dbda1dff182fa62a80edb763d598bfcaeb2537a42527f9d9082bc8afb0deede"), looks := false }, kinds := [], alts := [], laidByText := true, laidKinds := [.data], laidTests := true, laidLooks := .later }
def PageOpensUptoCardSaid : Prop := Claim7.holds Tryd.pinned (.plain (OpenSpec.upto pageOpensSpec)) pageOpensUptoCard

/-- THE SECOND FORM's CARD OF 'cashbooklaw06.PageTold'. -/
def pageToldUptoCard : Claim7 := { stood := { row := pageToldUptoRow, standIns := [], harness := (true, "1dbda1dff182fa62a80edb763d598bfcaeb2537a42527f9d9082bc8afb0deede"), looks := false }, kinds := [], alts := [], laidByText := true, laidKinds := [.data], laidTests := true, laidLooks := .later }
def PageToldUptoCardSaid : Prop := Claim7.holds Tryd.pinned (.plain (OpenSpec.upto pageToldSpec)) pageToldUptoCard

/-- THE SECOND FORM's CARD OF 'cashbooklaw06.PageMoved'. -/
def pageMovedUptoCard : Claim7 := { stood := { row := pageMovedUptoRow, standIns := [], harness := (true, "1dbda1dff182fa62a80edb763d598bfcaeb2537a42527f9d9082bc8afb0deede"), looks := false }, kinds := [], alts := [], laidByText := true, laidKinds := [.data], laidTests := true, laidLooks := .later }
def PageMovedUptoCardSaid : Prop := Claim7.holds Tryd.pinned (.plain (OpenSpec.upto pageMovedSpec)) pageMovedUptoCard

/-- THE SECOND FORM's CARD OF 'cashbooklaw07.SuperBack'. -/
def superBackUptoCard : Claim7 := { stood := { row := superBackUptoRow, standIns := [], harness := (true, "1dbda1dff182fa62a80edb763d598bfcaeb2537a42527f9d9082bc8afb0deede"), looks := false }, kinds := [], alts := [], laidByText := true, laidKinds := [.data], laidTests := true, laidLooks := .later }
def SuperBackUptoCardSaid : Prop := Claim7.holds Tryd.pinned (.plain (OpenSpec.upto superBackSpec)) superBackUptoCard

/-- THE SECOND FORM's CARD OF 'cashbooklaw07.SuperReads'. -/
def superReadsUptoCard : Claim7 := { stood := { row := superReadsUptoRow, standIns := [], harness := (true, "1dbda1dff182fa62a80edb763d598bfcaeb2537a42527f9d9082bc8afb0deede"), looks := false }, kinds := [], alts := [], laidByText := true, laidKinds := [.data], laidTests := true, laidLooks := .later }
def SuperReadsUptoCardSaid : Prop := Claim7.holds Tryd.pinned (.plain (OpenSpec.upto superReadsSpec)) superReadsUptoCard

/-- THE SECOND FORM's CARD OF 'cashbooklaw07.SuperNewest'. -/
def superNewestUptoCard : Claim7 := { stood := { row := superNewestUptoRow, standIns := [], harness := (true, "1dbda1dff182fa62a80edb763d598bfcaeb2537a42527f9d9082bc8afb0deede"), looks := false }, kinds := [], alts := [], laidByText := true, laidKinds := [.data], laidTests := true, laidLooks := .later }
def SuperNewestUptoCardSaid : Prop := Claim7.holds Tryd.pinned (.plain (OpenSpec.upto superNewestSpec)) superNewestUptoCard

/-- THE SECOND FORM's CARD OF 'cashbooklaw07.SuperTurns'. -/
def superTurnsUptoCard : Claim7 := { stood := { row := superTurnsUptoRow, standIns := [], harness := (true, "1dbda1dff182fa62a80edb763d598bfcaeb2537a42527f9d9082bc8afb0deede"), looks := false }, kinds := [], alts := [], laidByText := true, laidKinds := [.data], laidTests := true, laidLooks := .later }
def SuperTurnsUptoCardSaid : Prop := Claim7.holds Tryd.pinned (.plain (OpenSpec.upto superTurnsSpec)) superTurnsUptoCard
end Rows
end Go.Proofs.YtcakicifgbnhcaaDoor
