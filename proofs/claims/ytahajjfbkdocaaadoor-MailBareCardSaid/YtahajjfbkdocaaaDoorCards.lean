/-
  DERIVED. GIVEN WITH THE SEED: THE CARDS: each row of YtahajjfbkdocaaaDoorRows.lean that lists a variable, with what it lists TIED to the program's text (the seventh form; the later family's looks); each row that meets fmt, with fmt's text TOLD by the authors' own Lean function (tested against real Go, not proved from fmt's source: count such statements apart). THE CARD IS WHAT COUNTS. Prove the row's statement (the work); the ties are given (YtahajjfbkdocaaaDoorTie.lean); close each card by the builder's one call (the guide's Derived/Test/ToyasCard.lean, 'card_holds'). Laid BY PROGRAM, IN A SANDBOX (cutbox-door.mjs). By AI agents, Wed Nov 11 2026. No macro, syntax, notation, axiom, sorry.
-/
import Derived.Test.YtahajjfbkdocaaaDoorRows
import GoSem.ClaimSeven
namespace Go.Proofs.YtahajjfbkdocaaaDoor
namespace Rows

/-- THE TIED CARD OF 'caucuslaw07.MailUnlike'. -/
def mailUnlikeCard : Claim7 := { stood := { row := mailUnlikeRow, standIns := [], harness := (true, "013ed116818b7cb3953c4804ccddc0dedc320d659e7d4f553e20a16047701ada"), looks := false }, kinds := [], alts := [], laidByText := true, laidKinds := [.data], laidTests := true, laidLooks := .later }
def MailUnlikeCardSaid : Prop := Claim7.holds Tryd.pinned (.plain (OpenSpec.ofChange mailUnlikeSpec)) mailUnlikeCard

/-- THE TIED CARD OF 'caucuslaw07.MailBare'. -/
def mailBareCard : Claim7 := { stood := { row := mailBareRow, standIns := [], harness := (true, "013ed116818b7cb3953c4804ccddc0dedc320d659e7d4f553e20a16047701ada"), looks := false }, kinds := [], alts := [], laidByText := true, laidKinds := [.data], laidTests := true, laidLooks := .later }
def MailBareCardSaid : Prop := Claim7.holds Tryd.pinned (.plain (OpenSpec.ofChange mailBareSpec)) mailBareCard

/-- THE TIED CARD OF 'caucuslaw07.MailBytes'. -/
def mailBytesCard : Claim7 := { stood := { row := mailBytesRow, standIns := [], harness := (true, "013ed116818b7cb3953c4804ccddc0dedc320d659e7d4f553e20a16047701ada"), looks := false }, kinds := [], alts := [], laidByText := true, laidKinds := [.data], laidTests := true, laidLooks := .later }
def MailBytesCardSaid : Prop := Claim7.holds Tryd.pinned (.plain (OpenSpec.ofChange mailBytesSpec)) mailBytesCard

/-- THE TIED CARD OF 'caucuslaw07.MailReads'. -/
def mailReadsCard : Claim7 := { stood := { row := mailReadsRow, standIns := [], harness := (true, "013ed116818b7cb3953c4804ccddc0dedc320d659e7d4f553e20a16047701ada"), looks := false }, kinds := [], alts := [], laidByText := true, laidKinds := [.data], laidTests := true, laidLooks := .later }
def MailReadsCardSaid : Prop := Claim7.holds Tryd.pinned (.plain (OpenSpec.ofChange mailReadsSpec)) mailReadsCard

/-- THE TIED CARD OF 'caucuslaw07.MailCuts'. -/
def mailCutsCard : Claim7 := { stood := { row := mailCutsRow, standIns := [], harness := (true, "013ed116818b7cb3953c4804ccddc0dedc320d659e7d4f553e20a16047701ada"), looks := false }, kinds := [], alts := [], laidByText := true, laidKinds := [.data], laidTests := true, laidLooks := .later }
def MailCutsCardSaid : Prop := Claim7.holds Tryd.pinned (.plain (OpenSpec.ofChange mailCutsSpec)) mailCutsCard

/-- THE SECOND FORM's CARD OF 'caucuslaw07.MailUnlike'. -/
def mailUnlikeUptoCard : Claim7 := { stood := { row := mailUnlikeUptoRow, standIns := [], harness := (true, "013ed116818b7cb3953c4804ccddc0dedc320d659e7d4f553e20a16047701ada"), looks := false }, kinds := [], alts := [], laidByText := true, laidKinds := [.data], laidTests := true, laidLooks := .later }
def MailUnlikeUptoCardSaid : Prop := Claim7.holds Tryd.pinned (.plain (OpenSpec.upto mailUnlikeSpec)) mailUnlikeUptoCard

/-- THE SECOND FORM's CARD OF 'caucuslaw07.MailBare'. -/
def mailBareUptoCard : Claim7 := { stood := { row := mailBareUptoRow, standIns := [], harness := (true, "013ed116818b7cb3953c4804ccddc0dedc320d659e7d4f553e20a16047701ada"), looks := false }, kinds := [], alts := [], laidByText := true, laidKinds := [.data], laidTests := true, laidLooks := .later }
def MailBareUptoCardSaid : Prop := Claim7.holds Tryd.pinned (.plain (OpenSpec.upto mailBareSpec)) mailBareUptoCard

/-- THE SECOND FORM's CARD OF 'caucuslaw07.MailBytes'. -/
def mailBytesUptoCard : Claim7 := { stood := { row := mailBytesUptoRow, standIns := [], harness := (true, "013ed116818b7cb3953c4804ccddc0dedc320d659e7d4f553e20a16047701ada"), looks := false }, kinds := [], alts := [], laidByText := true, laidKinds := [.data], laidTests := true, laidLooks := .later }
def MailBytesUptoCardSaid : Prop := Claim7.holds Tryd.pinned (.plain (OpenSpec.upto mailBytesSpec)) mailBytesUptoCard

/-- THE SECOND FORM's CARD OF 'caucuslaw07.MailReads'. -/
def mailReadsUptoCard : Claim7 := { stood := { row := mailReadsUptoRow, standIns := [], harness := (true, "013ed116818b7cb3953c4804ccddc0dedc320d659e7d4f553e20a16047701ada"), looks := false }, kinds := [], alts := [], laidByText := true, laidKinds := [.data], laidTests := true, laidLooks := .later }
def MailReadsUptoCardSaid : Prop := Claim7.holds Tryd.pinned (.plain (OpenSpec.upto mailReadsSpec)) mailReadsUptoCard

/-- THE SECOND FORM's CARD OF 'caucuslaw07.MailCuts'. -/
def mailCutsUptoCard : Claim7 := { stood := { row := mailCutsUptoRow, standIns := [], harness := (true, "013ed116818b7cb3953c4804ccddc0dedc320d659e7d4f553e20a16047701ada"), looks := false }, kinds := [], alts := [], laidByText := true, laidKinds := [.data], laidTests := true, laidLooks := .later }
def MailCutsUptoCardSaid : Prop := Claim7.holds Tryd.pinned (.plain (OpenSpec.upto mailCutsSpec)) mailCutsUptoCard
end Rows
end Go.Proofs.YtahajjfbkdocaaaDoor
