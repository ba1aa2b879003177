/-
  DERIVED. GIVEN WITH THE SEED: THE CARDS: each row of YtfgacjglfdehbaaDoorRows.lean that lists a variable, with what it lists TIED to the program's text (the seventh form; the later family's looks); each row that meets fmt, with fmt's text TOLD by the authors' own Lean function (tested against real Go, not proved from fmt's source: count such statements apart). THE CARD IS WHAT COUNTS. Prove the row's statement (the work); the ties are given (YtfgacjglfdehbaaDoorTie.lean); close each card by the builder's one call (the guide's Derived/Test/ToyasCard.lean, 'card_holds'). Laid BY PROGRAM, IN A SANDBOX (cutbox-door.mjs). By AI agents, Wed Nov 11 2026. No macro, syntax, notation, axiom, sorry.
-/
import Derived.Test.YtfgacjglfdehbaaDoorRows
import GoSem.ClaimSeven
namespace Go.Proofs.YtfgacjglfdehbaaDoor
namespace Rows

/-- THE TIED CARD OF 'caucuslaw15.VoterCommitted'. -/
def voterCommittedCard : Claim7 := { stood := { row := voterCommittedRow, standIns := [], harness := (true, "1024ab95e4345ed24863a62a269d4ad7e068e5018a0202001044bd3dfdeabac0"), looks := false }, kinds := [], alts := [], laidByText := true, laidKinds := [.data], laidTests := true, laidLooks := .later }
def VoterCommittedCardSaid : Prop := Claim7.holds Tryd.pinned (.plain (OpenSpec.ofChange voterCommittedSpec)) voterCommittedCard

/-- THE TIED CARD OF 'caucuslaw15.VoterNacks'. -/
def voterNacksCard : Claim7 := { stood := { row := voterNacksRow, standIns := [], harness := (true, "1024ab95e4345ed24863a62a269d4ad7e068e5018a0202001044bd3dfdeabac0"), looks := false }, kinds := [], alts := [], laidByText := true, laidKinds := [.data], laidTests := true, laidLooks := .later }
def VoterNacksCardSaid : Prop := Claim7.holds Tryd.pinned (.plain (OpenSpec.ofChange voterNacksSpec)) voterNacksCard

/-- THE TIED CARD OF 'caucuslaw15.VoterWays'. -/
def voterWaysCard : Claim7 := { stood := { row := voterWaysRow, standIns := [], harness := (true, "1024ab95e4345ed24863a62a269d4ad7e068e5018a0202001044bd3dfdeabac0"), looks := false }, kinds := [], alts := [], laidByText := true, laidKinds := [.data], laidTests := true, laidLooks := .later }
def VoterWaysCardSaid : Prop := Claim7.holds Tryd.pinned (.plain (OpenSpec.ofChange voterWaysSpec)) voterWaysCard

/-- THE TIED CARD OF 'caucuslaw15.VoterOnce'. -/
def voterOnceCard : Claim7 := { stood := { row := voterOnceRow, standIns := [], harness := (true, "1024ab95e4345ed24863a62a269d4ad7e068e5018a0202001044bd3dfdeabac0"), looks := false }, kinds := [], alts := [], laidByText := true, laidKinds := [.data], laidTests := true, laidLooks := .later }
def VoterOnceCardSaid : Prop := Claim7.holds Tryd.pinned (.plain (OpenSpec.ofChange voterOnceSpec)) voterOnceCard

/-- THE SECOND FORM's CARD OF 'caucuslaw15.VoterCommitted'. -/
def voterCommittedUptoCard : Claim7 := { stood := { row := voterCommittedUptoRow, standIns := [], harness := (true, "1024ab95e4345ed24863a62a269d4ad7e068e5018a0202001044bd3dfdeabac0"), looks := false }, kinds := [], alts := [], laidByText := true, laidKinds := [.data], laidTests := true, laidLooks := .later }
def VoterCommittedUptoCardSaid : Prop := Claim7.holds Tryd.pinned (.plain (OpenSpec.upto voterCommittedSpec)) voterCommittedUptoCard

/-- THE SECOND FORM's CARD OF 'caucuslaw15.VoterNacks'. -/
def voterNacksUptoCard : Claim7 := { stood := { row := voterNacksUptoRow, standIns := [], harness := (true, "1024ab95e4345ed24863a62a269d4ad7e068e5018a0202001044bd3dfdeabac0"), looks := false }, kinds := [], alts := [], laidByText := true, laidKinds := [.data], laidTests := true, laidLooks := .later }
def VoterNacksUptoCardSaid : Prop := Claim7.holds Tryd.pinned (.plain (OpenSpec.upto voterNacksSpec)) voterNacksUptoCard

/-- THE SECOND FORM's CARD OF 'caucuslaw15.VoterWays'. -/
def voterWaysUptoCard : Claim7 := { stood := { row := voterWaysUptoRow, standIns := [], harness := (true, "1024ab95e4345ed24863a62a269d4ad7e068e5018a0202001044bd3dfdeabac0"), looks := false }, kinds := [], alts := [], laidByText := true, laidKinds := [.data], laidTests := true, laidLooks := .later }
def VoterWaysUptoCardSaid : Prop := Claim7.holds Tryd.pinned (.plain (OpenSpec.upto voterWaysSpec)) voterWaysUptoCard

/-- THE SECOND FORM's CARD OF 'caucuslaw15.VoterOnce'. -/
def voterOnceUptoCard : Claim7 := { stood := { row := voterOnceUptoRow, standIns := [], harness := (true, "1024ab95e4345ed24863a62a269d4ad7e068e5018a0202001044bd3dfdeabac0"), looks := false }, kinds := [], alts := [], laidByText := true, laidKinds := [.data], laidTests := true, laidLooks := .later }
def VoterOnceUptoCardSaid : Prop := Claim7.holds Tryd.pinned (.plain (OpenSpec.upto voterOnceSpec)) voterOnceUptoCard
end Rows
end Go.Proofs.YtfgacjglfdehbaaDoor
