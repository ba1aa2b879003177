/-
  No cell of these rows narrows 'for every input' (looked for: loops, veiled, ifaces, maps, wideKeys, modest, calm, conditions, laid).
  DERIVED. THE GIVEN ROWS OF THIS SEAT. 12 by the template 'for every input the law returns true; each argument reads behind the call as it read before'; 0 by the template 'total and deterministic' (their statements: YtnjnafmonijlnaaTotals.lean).
  GIVEN WITH THE SEED: the statements are not yours to turn. If you find one false, say at which input.
  Laid BY PROGRAM, IN A SANDBOX (cutbox-rows.mjs): the forced cells as the released guide's own fill.sh prints them over the translation a38cba68260de235… (all of the seat's roots in one cut). By AI agents, Wed Nov 11 2026. No macro, syntax, notation, axiom, sorry.
-/
import Derived.Test.YtnjnafmonijlnaaChecked
import GoSem.Claim
import GoSem.ClaimJoined
import GoSem.ClaimMapViews
import Derived.JoinedTies
import Derived.KernelRfl
namespace Go.Proofs.Ytnjnafmonijlnaa
/- THE CELL 'sum', in the pinned program and in every row, IS THE sha256 OF THE DUMP (.gsa) THAT YtnjnafmonijlnaaProg.lean LOADS. Nothing in Lean hashes anything: it is a label: what it is worth is what the hold of that sum in a sandbox is worth. -/
noncomputable def Try.pinned : Pinned := { name := "ytnjnafmonijlnaa", sum := "a38cba68260de2353ef240c4b25c576884c648aad7c9fc1c8c1df13d4efdcc0f", checked := Try.checked }
namespace Rows
def none {H : Type} : Left H := { results := [], args := [] }

/-- 'caucuslaw05.DepsHas': WHATEVER THE INPUT: true; the input reads as it did. -/
def depsHasSpec : ChangeSpec := { name := "depsHas", fn := fun _ => fun
  | [d1, d2, d3] => { results := [.lit (.bool true)], args := [d1, d2, d3] }
  | _ => none }
def depsHasRow : OpenClaim := { program := "ytnjnafmonijlnaa", sum := "a38cba68260de2353ef240c4b25c576884c648aad7c9fc1c8c1df13d4efdcc0f", func := "caucus/caucuslaw05.DepsHas", spec := "depsHas", apart := false }
def DepsHasSaid : Prop := depsHasRow.holds Try.pinned (OpenSpec.ofChange depsHasSpec)

/-- ITS FALSE NEIGHBOUR: 'it returns false'. Refute it at one input. -/
def depsHasWrong : ChangeSpec := { name := "depsHas", fn := fun _ => fun
  | [d1, d2, d3] => { results := [.lit (.bool false)], args := [d1, d2, d3] }
  | _ => none }
def DepsHasWrongFalsely : Prop := depsHasRow.holds Try.pinned (OpenSpec.ofChange depsHasWrong)

/-- 'caucuslaw05.DepsReach': WHATEVER THE INPUT: true; the input reads as it did. -/
def depsReachSpec : ChangeSpec := { name := "depsReach", fn := fun _ => fun
  | [d1, d2, d3, d4] => { results := [.lit (.bool true)], args := [d1, d2, d3, d4] }
  | _ => none }
def depsReachRow : OpenClaim := { program := "ytnjnafmonijlnaa", sum := "a38cba68260de2353ef240c4b25c576884c648aad7c9fc1c8c1df13d4efdcc0f", func := "caucus/caucuslaw05.DepsReach", spec := "depsReach", apart := false }
def DepsReachSaid : Prop := depsReachRow.holds Try.pinned (OpenSpec.ofChange depsReachSpec)

/-- ITS FALSE NEIGHBOUR: 'it returns false'. Refute it at one input. -/
def depsReachWrong : ChangeSpec := { name := "depsReach", fn := fun _ => fun
  | [d1, d2, d3, d4] => { results := [.lit (.bool false)], args := [d1, d2, d3, d4] }
  | _ => none }
def DepsReachWrongFalsely : Prop := depsReachRow.holds Try.pinned (OpenSpec.ofChange depsReachWrong)

/-- 'caucuslaw05.DepsItems': WHATEVER THE INPUT: true; the input reads as it did. -/
def depsItemsSpec : ChangeSpec := { name := "depsItems", fn := fun _ => fun
  | [d1, d2] => { results := [.lit (.bool true)], args := [d1, d2] }
  | _ => none }
def depsItemsRow : OpenClaim := { program := "ytnjnafmonijlnaa", sum := "a38cba68260de2353ef240c4b25c576884c648aad7c9fc1c8c1df13d4efdcc0f", func := "caucus/caucuslaw05.DepsItems", spec := "depsItems", unfollowed := true, recurses := true, apart := false }
def DepsItemsSaid : Prop := depsItemsRow.holds Try.pinned (OpenSpec.ofChange depsItemsSpec)

/-- ITS FALSE NEIGHBOUR: 'it returns false'. Refute it at one input. -/
def depsItemsWrong : ChangeSpec := { name := "depsItems", fn := fun _ => fun
  | [d1, d2] => { results := [.lit (.bool false)], args := [d1, d2] }
  | _ => none }
def DepsItemsWrongFalsely : Prop := depsItemsRow.holds Try.pinned (OpenSpec.ofChange depsItemsWrong)

/-- 'caucuslaw05.DepsJoins': WHATEVER THE INPUT: true; the input reads as it did. -/
def depsJoinsSpec : ChangeSpec := { name := "depsJoins", fn := fun _ => fun
  | [d1, d2, d3, d4] => { results := [.lit (.bool true)], args := [d1, d2, d3, d4] }
  | _ => none }
def depsJoinsRow : OpenClaim := { program := "ytnjnafmonijlnaa", sum := "a38cba68260de2353ef240c4b25c576884c648aad7c9fc1c8c1df13d4efdcc0f", func := "caucus/caucuslaw05.DepsJoins", spec := "depsJoins", apart := false }
def DepsJoinsSaid : Prop := depsJoinsRow.holds Try.pinned (OpenSpec.ofChange depsJoinsSpec)

/-- ITS FALSE NEIGHBOUR: 'it returns false'. Refute it at one input. -/
def depsJoinsWrong : ChangeSpec := { name := "depsJoins", fn := fun _ => fun
  | [d1, d2, d3, d4] => { results := [.lit (.bool false)], args := [d1, d2, d3, d4] }
  | _ => none }
def DepsJoinsWrongFalsely : Prop := depsJoinsRow.holds Try.pinned (OpenSpec.ofChange depsJoinsWrong)

/-- 'caucuslaw05.DepsCount': WHATEVER THE INPUT: true; the input reads as it did. -/
def depsCountSpec : ChangeSpec := { name := "depsCount", fn := fun _ => fun
  | [d] => { results := [.lit (.bool true)], args := [d] }
  | _ => none }
def depsCountRow : OpenClaim := { program := "ytnjnafmonijlnaa", sum := "a38cba68260de2353ef240c4b25c576884c648aad7c9fc1c8c1df13d4efdcc0f", func := "caucus/caucuslaw05.DepsCount", spec := "depsCount", unfollowed := true, recurses := true, apart := false }
def DepsCountSaid : Prop := depsCountRow.holds Try.pinned (OpenSpec.ofChange depsCountSpec)

/-- ITS FALSE NEIGHBOUR: 'it returns false'. Refute it at one input. -/
def depsCountWrong : ChangeSpec := { name := "depsCount", fn := fun _ => fun
  | [d] => { results := [.lit (.bool false)], args := [d] }
  | _ => none }
def DepsCountWrongFalsely : Prop := depsCountRow.holds Try.pinned (OpenSpec.ofChange depsCountWrong)

/-- 'caucuslaw04.DeedGood': WHATEVER THE INPUT: true; the input reads as it did. -/
def deedGoodSpec : ChangeSpec := { name := "deedGood", fn := fun _ => fun
  | [d] => { results := [.lit (.bool true)], args := [d] }
  | _ => none }
def deedGoodRow : OpenClaim := { program := "ytnjnafmonijlnaa", sum := "a38cba68260de2353ef240c4b25c576884c648aad7c9fc1c8c1df13d4efdcc0f", func := "caucus/caucuslaw04.DeedGood", spec := "deedGood", apart := false }
def DeedGoodSaid : Prop := deedGoodRow.holds Try.pinned (OpenSpec.ofChange deedGoodSpec)

/-- ITS FALSE NEIGHBOUR: 'it returns false'. Refute it at one input. -/
def deedGoodWrong : ChangeSpec := { name := "deedGood", fn := fun _ => fun
  | [d] => { results := [.lit (.bool false)], args := [d] }
  | _ => none }
def DeedGoodWrongFalsely : Prop := deedGoodRow.holds Try.pinned (OpenSpec.ofChange deedGoodWrong)

/-- 'caucuslaw04.DeedClash': WHATEVER THE INPUT: true; the input reads as it did. -/
def deedClashSpec : ChangeSpec := { name := "deedClash", fn := fun _ => fun
  | [d1, d2] => { results := [.lit (.bool true)], args := [d1, d2] }
  | _ => none }
def deedClashRow : OpenClaim := { program := "ytnjnafmonijlnaa", sum := "a38cba68260de2353ef240c4b25c576884c648aad7c9fc1c8c1df13d4efdcc0f", func := "caucus/caucuslaw04.DeedClash", spec := "deedClash", apart := false }
def DeedClashSaid : Prop := deedClashRow.holds Try.pinned (OpenSpec.ofChange deedClashSpec)

/-- ITS FALSE NEIGHBOUR: 'it returns false'. Refute it at one input. -/
def deedClashWrong : ChangeSpec := { name := "deedClash", fn := fun _ => fun
  | [d1, d2] => { results := [.lit (.bool false)], args := [d1, d2] }
  | _ => none }
def DeedClashWrongFalsely : Prop := deedClashRow.holds Try.pinned (OpenSpec.ofChange deedClashWrong)

/-- 'caucuslaw04.DeedReads': WHATEVER THE INPUT: true; the input reads as it did. -/
def deedReadsSpec : ChangeSpec := { name := "deedReads", fn := fun _ => fun
  | [d1, d2, d3] => { results := [.lit (.bool true)], args := [d1, d2, d3] }
  | _ => none }
def deedReadsRow : OpenClaim := { program := "ytnjnafmonijlnaa", sum := "a38cba68260de2353ef240c4b25c576884c648aad7c9fc1c8c1df13d4efdcc0f", func := "caucus/caucuslaw04.DeedReads", spec := "deedReads", apart := false }
def DeedReadsSaid : Prop := deedReadsRow.holds Try.pinned (OpenSpec.ofChange deedReadsSpec)

/-- ITS FALSE NEIGHBOUR: 'it returns false'. Refute it at one input. -/
def deedReadsWrong : ChangeSpec := { name := "deedReads", fn := fun _ => fun
  | [d1, d2, d3] => { results := [.lit (.bool false)], args := [d1, d2, d3] }
  | _ => none }
def DeedReadsWrongFalsely : Prop := deedReadsRow.holds Try.pinned (OpenSpec.ofChange deedReadsWrong)

/-- 'caucuslaw04.DeedSession': WHATEVER THE INPUT: true; the input reads as it did. -/
def deedSessionSpec : ChangeSpec := { name := "deedSession", fn := fun _ => fun
  | [d1, d2, d3] => { results := [.lit (.bool true)], args := [d1, d2, d3] }
  | _ => none }
def deedSessionRow : OpenClaim := { program := "ytnjnafmonijlnaa", sum := "a38cba68260de2353ef240c4b25c576884c648aad7c9fc1c8c1df13d4efdcc0f", func := "caucus/caucuslaw04.DeedSession", spec := "deedSession", apart := false }
def DeedSessionSaid : Prop := deedSessionRow.holds Try.pinned (OpenSpec.ofChange deedSessionSpec)

/-- ITS FALSE NEIGHBOUR: 'it returns false'. Refute it at one input. -/
def deedSessionWrong : ChangeSpec := { name := "deedSession", fn := fun _ => fun
  | [d1, d2, d3] => { results := [.lit (.bool false)], args := [d1, d2, d3] }
  | _ => none }
def DeedSessionWrongFalsely : Prop := deedSessionRow.holds Try.pinned (OpenSpec.ofChange deedSessionWrong)

/-- 'caucuslaw04.DeedGets': WHATEVER THE INPUT: true; the input reads as it did. -/
def deedGetsSpec : ChangeSpec := { name := "deedGets", fn := fun _ => fun
  | [d] => { results := [.lit (.bool true)], args := [d] }
  | _ => none }
def deedGetsRow : OpenClaim := { program := "ytnjnafmonijlnaa", sum := "a38cba68260de2353ef240c4b25c576884c648aad7c9fc1c8c1df13d4efdcc0f", func := "caucus/caucuslaw04.DeedGets", spec := "deedGets", apart := false }
def DeedGetsSaid : Prop := deedGetsRow.holds Try.pinned (OpenSpec.ofChange deedGetsSpec)

/-- ITS FALSE NEIGHBOUR: 'it returns false'. Refute it at one input. -/
def deedGetsWrong : ChangeSpec := { name := "deedGets", fn := fun _ => fun
  | [d] => { results := [.lit (.bool false)], args := [d] }
  | _ => none }
def DeedGetsWrongFalsely : Prop := deedGetsRow.holds Try.pinned (OpenSpec.ofChange deedGetsWrong)

/-- 'caucuslaw04.DeedBytes': WHATEVER THE INPUT: true; the input reads as it did. -/
def deedBytesSpec : ChangeSpec := { name := "deedBytes", fn := fun _ => fun
  | [d1, d2] => { results := [.lit (.bool true)], args := [d1, d2] }
  | _ => none }
def deedBytesRow : OpenClaim := { program := "ytnjnafmonijlnaa", sum := "a38cba68260de2353ef240c4b25c576884c648aad7c9fc1c8c1df13d4efdcc0f", func := "caucus/caucuslaw04.DeedBytes", spec := "deedBytes", apart := false }
def DeedBytesSaid : Prop := deedBytesRow.holds Try.pinned (OpenSpec.ofChange deedBytesSpec)

/-- ITS FALSE NEIGHBOUR: 'it returns false'. Refute it at one input. -/
def deedBytesWrong : ChangeSpec := { name := "deedBytes", fn := fun _ => fun
  | [d1, d2] => { results := [.lit (.bool false)], args := [d1, d2] }
  | _ => none }
def DeedBytesWrongFalsely : Prop := deedBytesRow.holds Try.pinned (OpenSpec.ofChange deedBytesWrong)

/-- 'caucuslaw05.DepsBytes': WHATEVER THE INPUT: true; the input reads as it did. -/
def depsBytesSpec : ChangeSpec := { name := "depsBytes", fn := fun _ => fun
  | [d1, d2] => { results := [.lit (.bool true)], args := [d1, d2] }
  | _ => none }
def depsBytesRow : OpenClaim := { program := "ytnjnafmonijlnaa", sum := "a38cba68260de2353ef240c4b25c576884c648aad7c9fc1c8c1df13d4efdcc0f", func := "caucus/caucuslaw05.DepsBytes", spec := "depsBytes", apart := false }
def DepsBytesSaid : Prop := depsBytesRow.holds Try.pinned (OpenSpec.ofChange depsBytesSpec)

/-- ITS FALSE NEIGHBOUR: 'it returns false'. Refute it at one input. -/
def depsBytesWrong : ChangeSpec := { name := "depsBytes", fn := fun _ => fun
  | [d1, d2] => { results := [.lit (.bool false)], args := [d1, d2] }
  | _ => none }
def DepsBytesWrongFalsely : Prop := depsBytesRow.holds Try.pinned (OpenSpec.ofChange depsBytesWrong)

/- THE SECOND FORM. 'bulk': how many values and letters a reading holds, each counted each time it is reached (what is shared counts as often as it is met; a slice's spare places count too). A statement '..UptoSaid' is the law's where the arguments, and the package variables that the reading takes, are together of bulk at most 1048576: NARROWER than '..Said'. Prove '..Said' where nothing that the law and all that it calls make is longer than what came in: it says more and counts as full. Else prove '..UptoSaid'. A law counts once. -/
mutual
def uptoBulk {H : Type} : DataW H → Nat
  | .lit (.string bytes) => bytes.length + 1
  | .lit _ => 1
  | .nil => 1
  | .ptr d => uptoBulk d + 1
  | .slice elems spare => uptoBulkAll elems + uptoBulkAll spare + 1
  | .agg parts => uptoBulkAll parts + 1
  | .iface _ d => uptoBulk d + 1
  | .map entries => uptoBulkEntries entries + 1
  | .held _ => 1
def uptoBulkAll {H : Type} : List (DataW H) → Nat
  | [] => 0
  | d :: r => uptoBulk d + uptoBulkAll r
def uptoBulkEntries {H : Type} : List (Lit × DataW H) → Nat
  | [] => 0
  | x :: r => uptoBulkEntry x + uptoBulkEntries r
def uptoBulkEntry {H : Type} : Lit × DataW H → Nat
  | (.string bytes, d) => bytes.length + uptoBulk d + 1
  | (_, d) => uptoBulk d + 1
 end
def uptoSmall : (H : Type) → List (DataW H) → Bool := fun _ ds => decide (uptoBulkAll ds ≤ 1048576)
def OpenSpec.upto (s : _root_.Go.ChangeSpec) : _root_.Go.OpenSpec := { _root_.Go.OpenSpec.ofChange s with cond := some uptoSmall }

/-- 'caucuslaw05.DepsHas', WHERE WHAT IT READS IS OF BULK AT MOST 1048576: true; the input reads as it did. -/
def depsHasUptoRow : OpenClaim := { program := "ytnjnafmonijlnaa", sum := "a38cba68260de2353ef240c4b25c576884c648aad7c9fc1c8c1df13d4efdcc0f", func := "caucus/caucuslaw05.DepsHas", spec := "depsHas", apart := false, narrowed := true }
def DepsHasUptoSaid : Prop := depsHasUptoRow.holds Try.pinned (OpenSpec.upto depsHasSpec)

/-- 'caucuslaw05.DepsReach', WHERE WHAT IT READS IS OF BULK AT MOST 1048576: true; the input reads as it did. -/
def depsReachUptoRow : OpenClaim := { program := "ytnjnafmonijlnaa", sum := "a38cba68260de2353ef240c4b25c576884c648aad7c9fc1c8c1df13d4efdcc0f", func := "caucus/caucuslaw05.DepsReach", spec := "depsReach", apart := false, narrowed := true }
def DepsReachUptoSaid : Prop := depsReachUptoRow.holds Try.pinned (OpenSpec.upto depsReachSpec)

/-- 'caucuslaw05.DepsItems', WHERE WHAT IT READS IS OF BULK AT MOST 1048576: true; the input reads as it did. -/
def depsItemsUptoRow : OpenClaim := { program := "ytnjnafmonijlnaa", sum := "a38cba68260de2353ef240c4b25c576884c648aad7c9fc1c8c1df13d4efdcc0f", func := "caucus/caucuslaw05.DepsItems", spec := "depsItems", unfollowed := true, recurses := true, apart := false, narrowed := true }
def DepsItemsUptoSaid : Prop := depsItemsUptoRow.holds Try.pinned (OpenSpec.upto depsItemsSpec)

/-- 'caucuslaw05.DepsJoins', WHERE WHAT IT READS IS OF BULK AT MOST 1048576: true; the input reads as it did. -/
def depsJoinsUptoRow : OpenClaim := { program := "ytnjnafmonijlnaa", sum := "a38cba68260de2353ef240c4b25c576884c648aad7c9fc1c8c1df13d4efdcc0f", func := "caucus/caucuslaw05.DepsJoins", spec := "depsJoins", apart := false, narrowed := true }
def DepsJoinsUptoSaid : Prop := depsJoinsUptoRow.holds Try.pinned (OpenSpec.upto depsJoinsSpec)

/-- 'caucuslaw05.DepsCount', WHERE WHAT IT READS IS OF BULK AT MOST 1048576: true; the input reads as it did. -/
def depsCountUptoRow : OpenClaim := { program := "ytnjnafmonijlnaa", sum := "a38cba68260de2353ef240c4b25c576884c648aad7c9fc1c8c1df13d4efdcc0f", func := "caucus/caucuslaw05.DepsCount", spec := "depsCount", unfollowed := true, recurses := true, apart := false, narrowed := true }
def DepsCountUptoSaid : Prop := depsCountUptoRow.holds Try.pinned (OpenSpec.upto depsCountSpec)

/-- 'caucuslaw04.DeedGood', WHERE WHAT IT READS IS OF BULK AT MOST 1048576: true; the input reads as it did. -/
def deedGoodUptoRow : OpenClaim := { program := "ytnjnafmonijlnaa", sum := "a38cba68260de2353ef240c4b25c576884c648aad7c9fc1c8c1df13d4efdcc0f", func := "caucus/caucuslaw04.DeedGood", spec := "deedGood", apart := false, narrowed := true }
def DeedGoodUptoSaid : Prop := deedGoodUptoRow.holds Try.pinned (OpenSpec.upto deedGoodSpec)

/-- 'caucuslaw04.DeedClash', WHERE WHAT IT READS IS OF BULK AT MOST 1048576: true; the input reads as it did. -/
def deedClashUptoRow : OpenClaim := { program := "ytnjnafmonijlnaa", sum := "a38cba68260de2353ef240c4b25c576884c648aad7c9fc1c8c1df13d4efdcc0f", func := "caucus/caucuslaw04.DeedClash", spec := "deedClash", apart := false, narrowed := true }
def DeedClashUptoSaid : Prop := deedClashUptoRow.holds Try.pinned (OpenSpec.upto deedClashSpec)

/-- 'caucuslaw04.DeedReads', WHERE WHAT IT READS IS OF BULK AT MOST 1048576: true; the input reads as it did. -/
def deedReadsUptoRow : OpenClaim := { program := "ytnjnafmonijlnaa", sum := "a38cba68260de2353ef240c4b25c576884c648aad7c9fc1c8c1df13d4efdcc0f", func := "caucus/caucuslaw04.DeedReads", spec := "deedReads", apart := false, narrowed := true }
def DeedReadsUptoSaid : Prop := deedReadsUptoRow.holds Try.pinned (OpenSpec.upto deedReadsSpec)

/-- 'caucuslaw04.DeedSession', WHERE WHAT IT READS IS OF BULK AT MOST 1048576: true; the input reads as it did. -/
def deedSessionUptoRow : OpenClaim := { program := "ytnjnafmonijlnaa", sum := "a38cba68260de2353ef240c4b25c576884c648aad7c9fc1c8c1df13d4efdcc0f", func := "caucus/caucuslaw04.DeedSession", spec := "deedSession", apart := false, narrowed := true }
def DeedSessionUptoSaid : Prop := deedSessionUptoRow.holds Try.pinned (OpenSpec.upto deedSessionSpec)

/-- 'caucuslaw04.DeedGets', WHERE WHAT IT READS IS OF BULK AT MOST 1048576: true; the input reads as it did. -/
def deedGetsUptoRow : OpenClaim := { program := "ytnjnafmonijlnaa", sum := "a38cba68260de2353ef240c4b25c576884c648aad7c9fc1c8c1df13d4efdcc0f", func := "caucus/caucuslaw04.DeedGets", spec := "deedGets", apart := false, narrowed := true }
def DeedGetsUptoSaid : Prop := deedGetsUptoRow.holds Try.pinned (OpenSpec.upto deedGetsSpec)

/-- 'caucuslaw04.DeedBytes', WHERE WHAT IT READS IS OF BULK AT MOST 1048576: true; the input reads as it did. -/
def deedBytesUptoRow : OpenClaim := { program := "ytnjnafmonijlnaa", sum := "a38cba68260de2353ef240c4b25c576884c648aad7c9fc1c8c1df13d4efdcc0f", func := "caucus/caucuslaw04.DeedBytes", spec := "deedBytes", apart := false, narrowed := true }
def DeedBytesUptoSaid : Prop := deedBytesUptoRow.holds Try.pinned (OpenSpec.upto deedBytesSpec)

/-- 'caucuslaw05.DepsBytes', WHERE WHAT IT READS IS OF BULK AT MOST 1048576: true; the input reads as it did. -/
def depsBytesUptoRow : OpenClaim := { program := "ytnjnafmonijlnaa", sum := "a38cba68260de2353ef240c4b25c576884c648aad7c9fc1c8c1df13d4efdcc0f", func := "caucus/caucuslaw05.DepsBytes", spec := "depsBytes", apart := false, narrowed := true }
def DepsBytesUptoSaid : Prop := depsBytesUptoRow.holds Try.pinned (OpenSpec.upto depsBytesSpec)

end Rows
end Go.Proofs.Ytnjnafmonijlnaa
