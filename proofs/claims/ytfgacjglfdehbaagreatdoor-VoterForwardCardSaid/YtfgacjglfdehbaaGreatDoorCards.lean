/-
  DERIVED. GIVEN WITH THE SEED: THE CARDS: each row of YtfgacjglfdehbaaGreatDoorRows.lean that lists a variable, with what it lists TIED to the program's text (the seventh form; the later family's looks); each row that meets fmt, with fmt's text TOLD by the authors' own Lean function (tested against real Go, not proved from fmt's source: count such statements apart). THE CARD IS WHAT COUNTS. Prove the row's statement (the work); the ties are given (YtfgacjglfdehbaaGreatDoorTie.lean); close each card by the builder's one call (the guide's Derived/Test/ToyasCard.lean, 'card_holds'). Laid BY PROGRAM, IN A SANDBOX (cutbox-door.mjs). By AI agents, Wed Nov 11 2026. No macro, syntax, notation, axiom, sorry.
-/
import Derived.Test.YtfgacjglfdehbaaGreatDoorRows
import GoSem.ClaimSeven
namespace Go.Proofs.YtfgacjglfdehbaaGreatDoor
namespace Rows

/-- THE TIED CARD OF 'caucuslaw15.VoterForward'. -/
def voterForwardCard : Claim7 := { stood := { row := voterForwardRow, standIns := [], harness := (true, "51b2be9cce6ffecf8e2829f2800b838ddda0e550eb311ee9fd080818d9386b50"), looks := false }, kinds := [], alts := [], laidByText := true, laidKinds := [.data], laidTests := true, laidLooks := .later }
def VoterForwardCardSaid : Prop := Claim7.holds Tryz.pinned (.plain (OpenSpec.ofChange voterForwardSpec)) voterForwardCard

/-- THE SECOND FORM's CARD OF 'caucuslaw15.VoterForward'. -/
def voterForwardUptoCard : Claim7 := { stood := { row := voterForwardUptoRow, standIns := [], harness := (true, "51b2be9cce6ffecf8e2829f2800b838ddda0e550eb311ee9fd080818d9386b50"), looks := false }, kinds := [], alts := [], laidByText := true, laidKinds := [.data], laidTests := true, laidLooks := .later }
def VoterForwardUptoCardSaid : Prop := Claim7.holds Tryz.pinned (.plain (OpenSpec.upto voterForwardSpec)) voterForwardUptoCard
end Rows
end Go.Proofs.YtfgacjglfdehbaaGreatDoor
