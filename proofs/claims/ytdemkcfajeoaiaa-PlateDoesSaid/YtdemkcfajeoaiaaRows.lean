/-
  No cell of these rows narrows 'for every input' (looked for: loops, veiled, ifaces, maps, wideKeys, modest, calm, conditions, laid).
  DERIVED. THE GIVEN ROWS OF THIS SEAT. 4 by the template 'for every input the law returns true; each argument reads behind the call as it read before'; 0 by the template 'total and deterministic' (their statements: YtdemkcfajeoaiaaTotals.lean).
  GIVEN WITH THE SEED: the statements are not yours to turn. If you find one false, say at which input.
  Laid BY PROGRAM, IN A SANDBOX (cutbox-rows.mjs): the forced cells as the released guide's own fill.sh prints them over the translation 6b91faec95131021… (all of the seat's roots in one cut). By AI agents, Wed Nov 11 2026. No macro, syntax, notation, axiom, sorry.
-/
import Derived.Test.YtdemkcfajeoaiaaChecked
import GoSem.Claim
import GoSem.ClaimJoined
import GoSem.ClaimMapViews
import Derived.JoinedTies
import Derived.KernelRfl
namespace Go.Proofs.Ytdemkcfajeoaiaa
/- THE CELL 'sum', in the pinned program and in every row, IS THE sha256 OF THE DUMP (.gsa) THAT YtdemkcfajeoaiaaProg.lean LOADS. Nothing in Lean hashes anything: it is a label: what it is worth is what the hold of that sum in a sandbox is worth. -/
noncomputable def Try.pinned : Pinned := { name := "ytdemkcfajeoaiaa", sum := "6b91faec951310211ebd439d5faf57b0e91d70405fca0b771fab645ff91790e4", checked := Try.checked }
namespace Rows
def none {H : Type} : Left H := { results := [], args := [] }

/-- 'caucuslaw08.PlateFull': WHATEVER THE INPUT: true; the input reads as it did. -/
def plateFullSpec : ChangeSpec := { name := "plateFull", fn := fun _ => fun
  | [d1, d2] => { results := [.lit (.bool true)], args := [d1, d2] }
  | _ => none }
def plateFullRow : OpenClaim := { program := "ytdemkcfajeoaiaa", sum := "6b91faec951310211ebd439d5faf57b0e91d70405fca0b771fab645ff91790e4", func := "caucus/caucuslaw08.PlateFull", spec := "plateFull", apart := false }
def PlateFullSaid : Prop := plateFullRow.holds Try.pinned (OpenSpec.ofChange plateFullSpec)

/-- ITS FALSE NEIGHBOUR: 'it returns false'. Refute it at one input. -/
def plateFullWrong : ChangeSpec := { name := "plateFull", fn := fun _ => fun
  | [d1, d2] => { results := [.lit (.bool false)], args := [d1, d2] }
  | _ => none }
def PlateFullWrongFalsely : Prop := plateFullRow.holds Try.pinned (OpenSpec.ofChange plateFullWrong)

/-- 'caucuslaw08.PlateKeeps': WHATEVER THE INPUT: true; the input reads as it did. -/
def plateKeepsSpec : ChangeSpec := { name := "plateKeeps", fn := fun _ => fun
  | [d1, d2, d3, d4] => { results := [.lit (.bool true)], args := [d1, d2, d3, d4] }
  | _ => none }
def plateKeepsRow : OpenClaim := { program := "ytdemkcfajeoaiaa", sum := "6b91faec951310211ebd439d5faf57b0e91d70405fca0b771fab645ff91790e4", func := "caucus/caucuslaw08.PlateKeeps", spec := "plateKeeps", apart := false }
def PlateKeepsSaid : Prop := plateKeepsRow.holds Try.pinned (OpenSpec.ofChange plateKeepsSpec)

/-- ITS FALSE NEIGHBOUR: 'it returns false'. Refute it at one input. -/
def plateKeepsWrong : ChangeSpec := { name := "plateKeeps", fn := fun _ => fun
  | [d1, d2, d3, d4] => { results := [.lit (.bool false)], args := [d1, d2, d3, d4] }
  | _ => none }
def PlateKeepsWrongFalsely : Prop := plateKeepsRow.holds Try.pinned (OpenSpec.ofChange plateKeepsWrong)

/-- 'caucuslaw08.PlateParts': WHATEVER THE INPUT: true; the input reads as it did. -/
def platePartsSpec : ChangeSpec := { name := "plateParts", fn := fun _ => fun
  | [d1, d2] => { results := [.lit (.bool true)], args := [d1, d2] }
  | _ => none }
def platePartsRow : OpenClaim := { program := "ytdemkcfajeoaiaa", sum := "6b91faec951310211ebd439d5faf57b0e91d70405fca0b771fab645ff91790e4", func := "caucus/caucuslaw08.PlateParts", spec := "plateParts", apart := false }
def PlatePartsSaid : Prop := platePartsRow.holds Try.pinned (OpenSpec.ofChange platePartsSpec)

/-- ITS FALSE NEIGHBOUR: 'it returns false'. Refute it at one input. -/
def platePartsWrong : ChangeSpec := { name := "plateParts", fn := fun _ => fun
  | [d1, d2] => { results := [.lit (.bool false)], args := [d1, d2] }
  | _ => none }
def PlatePartsWrongFalsely : Prop := platePartsRow.holds Try.pinned (OpenSpec.ofChange platePartsWrong)

/-- 'caucuslaw08.PlateDoes': WHATEVER THE INPUT: true; the input reads as it did. -/
def plateDoesSpec : ChangeSpec := { name := "plateDoes", fn := fun _ => fun
  | [d] => { results := [.lit (.bool true)], args := [d] }
  | _ => none }
def plateDoesRow : OpenClaim := { program := "ytdemkcfajeoaiaa", sum := "6b91faec951310211ebd439d5faf57b0e91d70405fca0b771fab645ff91790e4", func := "caucus/caucuslaw08.PlateDoes", spec := "plateDoes", apart := false }
def PlateDoesSaid : Prop := plateDoesRow.holds Try.pinned (OpenSpec.ofChange plateDoesSpec)

/-- ITS FALSE NEIGHBOUR: 'it returns false'. Refute it at one input. -/
def plateDoesWrong : ChangeSpec := { name := "plateDoes", fn := fun _ => fun
  | [d] => { results := [.lit (.bool false)], args := [d] }
  | _ => none }
def PlateDoesWrongFalsely : Prop := plateDoesRow.holds Try.pinned (OpenSpec.ofChange plateDoesWrong)

/- THE SECOND FORM. 'bulk': how many values and letters a reading holds, each counted each time it is reached (what is shared counts as often as it is met; a slice's spare places count too). A statement '..UptoSaid' is the law's where the arguments, and the package variables that the reading takes, are together of bulk at most 1048576: NARROWER than '..Said'. Prove '..Said' where nothing that the law and all that it calls make is longer than what came in: it says more and counts as full. Else prove '..UptoSaid'. A law counts once. -/
mutual
def uptoBulk {H : Type} : DataW H → Nat
  | .lit (.string bytes) => bytes.length + 1
  | .lit _ => 1
  | .nil => 1
  | .ptr d => uptoBulk d + 1
  | .slice elems spare => uptoBulkAll elems + uptoBulkAll spare + 1
  | .agg parts => uptoBulkAll parts + 1
  | .iface _ d => uptoBulk d + 1
  | .map entries => uptoBulkEntries entries + 1
  | .held _ => 1
def uptoBulkAll {H : Type} : List (DataW H) → Nat
  | [] => 0
  | d :: r => uptoBulk d + uptoBulkAll r
def uptoBulkEntries {H : Type} : List (Lit × DataW H) → Nat
  | [] => 0
  | x :: r => uptoBulkEntry x + uptoBulkEntries r
def uptoBulkEntry {H : Type} : Lit × DataW H → Nat
  | (.string bytes, d) => bytes.length + uptoBulk d + 1
  | (_, d) => uptoBulk d + 1
 end
def uptoSmall : (H : Type) → List (DataW H) → Bool := fun _ ds => decide (uptoBulkAll ds ≤ 1048576)
def OpenSpec.upto (s : _root_.Go.ChangeSpec) : _root_.Go.OpenSpec := { _root_.Go.OpenSpec.ofChange s with cond := some uptoSmall }

/-- 'caucuslaw08.PlateFull', WHERE WHAT IT READS IS OF BULK AT MOST 1048576: true; the input reads as it did. -/
def plateFullUptoRow : OpenClaim := { program := "ytdemkcfajeoaiaa", sum := "6b91faec951310211ebd439d5faf57b0e91d70405fca0b771fab645ff91790e4", func := "caucus/caucuslaw08.PlateFull", spec := "plateFull", apart := false, narrowed := true }
def PlateFullUptoSaid : Prop := plateFullUptoRow.holds Try.pinned (OpenSpec.upto plateFullSpec)

/-- 'caucuslaw08.PlateKeeps', WHERE WHAT IT READS IS OF BULK AT MOST 1048576: true; the input reads as it did. -/
def plateKeepsUptoRow : OpenClaim := { program := "ytdemkcfajeoaiaa", sum := "6b91faec951310211ebd439d5faf57b0e91d70405fca0b771fab645ff91790e4", func := "caucus/caucuslaw08.PlateKeeps", spec := "plateKeeps", apart := false, narrowed := true }
def PlateKeepsUptoSaid : Prop := plateKeepsUptoRow.holds Try.pinned (OpenSpec.upto plateKeepsSpec)

/-- 'caucuslaw08.PlateParts', WHERE WHAT IT READS IS OF BULK AT MOST 1048576: true; the input reads as it did. -/
def platePartsUptoRow : OpenClaim := { program := "ytdemkcfajeoaiaa", sum := "6b91faec951310211ebd439d5faf57b0e91d70405fca0b771fab645ff91790e4", func := "caucus/caucuslaw08.PlateParts", spec := "plateParts", apart := false, narrowed := true }
def PlatePartsUptoSaid : Prop := platePartsUptoRow.holds Try.pinned (OpenSpec.upto platePartsSpec)

/-- 'caucuslaw08.PlateDoes', WHERE WHAT IT READS IS OF BULK AT MOST 1048576: true; the input reads as it did. -/
def plateDoesUptoRow : OpenClaim := { program := "ytdemkcfajeoaiaa", sum := "6b91faec951310211ebd439d5faf57b0e91d70405fca0b771fab645ff91790e4", func := "caucus/caucuslaw08.PlateDoes", spec := "plateDoes", apart := false, narrowed := true }
def PlateDoesUptoSaid : Prop := plateDoesUptoRow.holds Try.pinned (OpenSpec.upto plateDoesSpec)

end Rows
end Go.Proofs.Ytdemkcfajeoaiaa
