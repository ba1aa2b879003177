/-
  DERIVED. GIVEN WITH THE SEED: THE CARDS: each row of YtomlilkobhkoiaaGreatDoorRows.lean that lists a variable, with what it lists TIED to the program's text (the seventh form; the later family's looks); each row that meets fmt, with fmt's text TOLD by the authors' own Lean function (tested against real Go, not proved from fmt's source: count such statements apart). THE CARD IS WHAT COUNTS. Prove the row's statement (the work); the ties are given (YtomlilkobhkoiaaGreatDoorTie.lean); close each card by the builder's one call (the guide's Derived/Test/ToyasCard.lean, 'card_holds'). Laid BY PROGRAM, IN A SANDBOX (cutbox-door.mjs). By AI agents, Wed Nov 11 2026. No macro, syntax, notation, axiom, sorry.
-/
import Derived.Test.YtomlilkobhkoiaaGreatDoorRows
import GoSem.ClaimSeven
namespace Go.Proofs.YtomlilkobhkoiaaGreatDoor
namespace Rows

/-- THE TIED CARD OF 'caucuslaw22.ReplicaItems'. -/
def replicaItemsCard : Claim7 := { stood := { row := replicaItemsRow, standIns := [], harness := (true, "7a0a11f3abb51e6a19f485f6e3f3c506d4b788fd4b6ab0ebdd99de6a68367233"), looks := false }, kinds := [], alts := [], laidByText := true, laidKinds := [.data], laidTests := true, laidLooks := .later }
def ReplicaItemsCardSaid : Prop := Claim7.holds Tryz.pinned (.plain (OpenSpec.ofChange replicaItemsSpec)) replicaItemsCard

/-- THE SECOND FORM's CARD OF 'caucuslaw22.ReplicaItems'. -/
def replicaItemsUptoCard : Claim7 := { stood := { row := replicaItemsUptoRow, standIns := [], harness := (true, "7a0a11f3abb51e6a19f485f6e3f3c506d4b788fd4b6ab0ebdd99de6a68367233"), looks := false }, kinds := [], alts := [], laidByText := true, laidKinds := [.data], laidTests := true, laidLooks := .later }
def ReplicaItemsUptoCardSaid : Prop := Claim7.holds Tryz.pinned (.plain (OpenSpec.upto replicaItemsSpec)) replicaItemsUptoCard
end Rows
end Go.Proofs.YtomlilkobhkoiaaGreatDoor
