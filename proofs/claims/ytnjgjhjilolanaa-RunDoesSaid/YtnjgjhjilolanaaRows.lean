/-
  No cell of these rows narrows 'for every input' (looked for: loops, veiled, ifaces, maps, wideKeys, modest, calm, conditions, laid).
  DERIVED. THE GIVEN ROWS OF THIS SEAT. 7 by the template 'for every input the law returns true; each argument reads behind the call as it read before'; 0 by the template 'total and deterministic' (their statements: YtnjgjhjilolanaaTotals.lean).
  GIVEN WITH THE SEED: the statements are not yours to turn. If you find one false, say at which input.
  Laid BY PROGRAM, IN A SANDBOX (cutbox-rows.mjs): the forced cells as the released guide's own fill.sh prints them over the translation 63893ddea23ed4a1… (all of the seat's roots in one cut). By AI agents, Wed Nov 11 2026. No macro, syntax, notation, axiom, sorry.
-/
import Derived.Test.YtnjgjhjilolanaaChecked
import GoSem.Claim
import GoSem.ClaimJoined
import GoSem.ClaimMapViews
import Derived.JoinedTies
import Derived.KernelRfl
namespace Go.Proofs.Ytnjgjhjilolanaa
/- THE CELL 'sum', in the pinned program and in every row, IS THE sha256 OF THE DUMP (.gsa) THAT YtnjgjhjilolanaaProg.lean LOADS. Nothing in Lean hashes anything: it is a label: what it is worth is what the hold of that sum in a sandbox is worth. -/
noncomputable def Try.pinned : Pinned := { name := "ytnjgjhjilolanaa", sum := "63893ddea23ed4a1482e9399faedba04585c17aecbb9facdadc56e63e820f698", checked := Try.checked }
namespace Rows
def none {H : Type} : Left H := { results := [], args := [] }

/-- 'caucuslaw18.GraphDone': WHATEVER THE INPUT: true; the input reads as it did. -/
def graphDoneSpec : ChangeSpec := { name := "graphDone", fn := fun _ => fun
  | [d1, d2] => { results := [.lit (.bool true)], args := [d1, d2] }
  | _ => none }
def graphDoneRow : OpenClaim := { program := "ytnjgjhjilolanaa", sum := "63893ddea23ed4a1482e9399faedba04585c17aecbb9facdadc56e63e820f698", func := "caucus/caucuslaw18.GraphDone", spec := "graphDone", unfollowed := true, recurses := true, plainKeys := false, apart := false }
def GraphDoneSaid : Prop := graphDoneRow.holds Try.pinned (OpenSpec.ofChange graphDoneSpec)

/-- ITS FALSE NEIGHBOUR: 'it returns false'. Refute it at one input. -/
def graphDoneWrong : ChangeSpec := { name := "graphDone", fn := fun _ => fun
  | [d1, d2] => { results := [.lit (.bool false)], args := [d1, d2] }
  | _ => none }
def GraphDoneWrongFalsely : Prop := graphDoneRow.holds Try.pinned (OpenSpec.ofChange graphDoneWrong)

/-- 'caucuslaw18.GraphOrders': WHATEVER THE INPUT: true; the input reads as it did. -/
def graphOrdersSpec : ChangeSpec := { name := "graphOrders", fn := fun _ => fun
  | [d1, d2] => { results := [.lit (.bool true)], args := [d1, d2] }
  | _ => none }
def graphOrdersRow : OpenClaim := { program := "ytnjgjhjilolanaa", sum := "63893ddea23ed4a1482e9399faedba04585c17aecbb9facdadc56e63e820f698", func := "caucus/caucuslaw18.GraphOrders", spec := "graphOrders", unfollowed := true, recurses := true, plainKeys := false, apart := false }
def GraphOrdersSaid : Prop := graphOrdersRow.holds Try.pinned (OpenSpec.ofChange graphOrdersSpec)

/-- ITS FALSE NEIGHBOUR: 'it returns false'. Refute it at one input. -/
def graphOrdersWrong : ChangeSpec := { name := "graphOrders", fn := fun _ => fun
  | [d1, d2] => { results := [.lit (.bool false)], args := [d1, d2] }
  | _ => none }
def GraphOrdersWrongFalsely : Prop := graphOrdersRow.holds Try.pinned (OpenSpec.ofChange graphOrdersWrong)

/-- 'caucuslaw18.GraphOnce': WHATEVER THE INPUT: true; the input reads as it did. -/
def graphOnceSpec : ChangeSpec := { name := "graphOnce", fn := fun _ => fun
  | [d1, d2, d3] => { results := [.lit (.bool true)], args := [d1, d2, d3] }
  | _ => none }
def graphOnceRow : OpenClaim := { program := "ytnjgjhjilolanaa", sum := "63893ddea23ed4a1482e9399faedba04585c17aecbb9facdadc56e63e820f698", func := "caucus/caucuslaw18.GraphOnce", spec := "graphOnce", unfollowed := true, recurses := true, plainKeys := false, apart := false }
def GraphOnceSaid : Prop := graphOnceRow.holds Try.pinned (OpenSpec.ofChange graphOnceSpec)

/-- ITS FALSE NEIGHBOUR: 'it returns false'. Refute it at one input. -/
def graphOnceWrong : ChangeSpec := { name := "graphOnce", fn := fun _ => fun
  | [d1, d2, d3] => { results := [.lit (.bool false)], args := [d1, d2, d3] }
  | _ => none }
def GraphOnceWrongFalsely : Prop := graphOnceRow.holds Try.pinned (OpenSpec.ofChange graphOnceWrong)

/-- 'caucuslaw19.RunSame': WHATEVER THE INPUT: true; the input reads as it did. -/
def runSameSpec : ChangeSpec := { name := "runSame", fn := fun _ => fun
  | [d1, d2, d3, d4] => { results := [.lit (.bool true)], args := [d1, d2, d3, d4] }
  | _ => none }
def runSameRow : OpenClaim := { program := "ytnjgjhjilolanaa", sum := "63893ddea23ed4a1482e9399faedba04585c17aecbb9facdadc56e63e820f698", func := "caucus/caucuslaw19.RunSame", spec := "runSame", unfollowed := true, recurses := true, plainKeys := false, apart := false }
def RunSameSaid : Prop := runSameRow.holds Try.pinned (OpenSpec.ofChange runSameSpec)

/-- ITS FALSE NEIGHBOUR: 'it returns false'. Refute it at one input. -/
def runSameWrong : ChangeSpec := { name := "runSame", fn := fun _ => fun
  | [d1, d2, d3, d4] => { results := [.lit (.bool false)], args := [d1, d2, d3, d4] }
  | _ => none }
def RunSameWrongFalsely : Prop := runSameRow.holds Try.pinned (OpenSpec.ofChange runSameWrong)

/-- 'caucuslaw19.RunLeft': WHATEVER THE INPUT: true; the input reads as it did. -/
def runLeftSpec : ChangeSpec := { name := "runLeft", fn := fun _ => fun
  | [d1, d2, d3] => { results := [.lit (.bool true)], args := [d1, d2, d3] }
  | _ => none }
def runLeftRow : OpenClaim := { program := "ytnjgjhjilolanaa", sum := "63893ddea23ed4a1482e9399faedba04585c17aecbb9facdadc56e63e820f698", func := "caucus/caucuslaw19.RunLeft", spec := "runLeft", unfollowed := true, recurses := true, plainKeys := false, apart := false }
def RunLeftSaid : Prop := runLeftRow.holds Try.pinned (OpenSpec.ofChange runLeftSpec)

/-- ITS FALSE NEIGHBOUR: 'it returns false'. Refute it at one input. -/
def runLeftWrong : ChangeSpec := { name := "runLeft", fn := fun _ => fun
  | [d1, d2, d3] => { results := [.lit (.bool false)], args := [d1, d2, d3] }
  | _ => none }
def RunLeftWrongFalsely : Prop := runLeftRow.holds Try.pinned (OpenSpec.ofChange runLeftWrong)

/-- 'caucuslaw19.RunFills': WHATEVER THE INPUT: true; the input reads as it did. -/
def runFillsSpec : ChangeSpec := { name := "runFills", fn := fun _ => fun
  | [d1, d2] => { results := [.lit (.bool true)], args := [d1, d2] }
  | _ => none }
def runFillsRow : OpenClaim := { program := "ytnjgjhjilolanaa", sum := "63893ddea23ed4a1482e9399faedba04585c17aecbb9facdadc56e63e820f698", func := "caucus/caucuslaw19.RunFills", spec := "runFills", unfollowed := true, recurses := true, plainKeys := false, apart := false }
def RunFillsSaid : Prop := runFillsRow.holds Try.pinned (OpenSpec.ofChange runFillsSpec)

/-- ITS FALSE NEIGHBOUR: 'it returns false'. Refute it at one input. -/
def runFillsWrong : ChangeSpec := { name := "runFills", fn := fun _ => fun
  | [d1, d2] => { results := [.lit (.bool false)], args := [d1, d2] }
  | _ => none }
def RunFillsWrongFalsely : Prop := runFillsRow.holds Try.pinned (OpenSpec.ofChange runFillsWrong)

/-- 'caucuslaw19.RunDoes': WHATEVER THE INPUT: true; the input reads as it did. -/
def runDoesSpec : ChangeSpec := { name := "runDoes", fn := fun _ => fun
  | [d1, d2] => { results := [.lit (.bool true)], args := [d1, d2] }
  | _ => none }
def runDoesRow : OpenClaim := { program := "ytnjgjhjilolanaa", sum := "63893ddea23ed4a1482e9399faedba04585c17aecbb9facdadc56e63e820f698", func := "caucus/caucuslaw19.RunDoes", spec := "runDoes", unfollowed := true, recurses := true, plainKeys := false, apart := false }
def RunDoesSaid : Prop := runDoesRow.holds Try.pinned (OpenSpec.ofChange runDoesSpec)

/-- ITS FALSE NEIGHBOUR: 'it returns false'. Refute it at one input. -/
def runDoesWrong : ChangeSpec := { name := "runDoes", fn := fun _ => fun
  | [d1, d2] => { results := [.lit (.bool false)], args := [d1, d2] }
  | _ => none }
def RunDoesWrongFalsely : Prop := runDoesRow.holds Try.pinned (OpenSpec.ofChange runDoesWrong)

/- THE SECOND FORM. 'bulk': how many values and letters a reading holds, each counted each time it is reached (what is shared counts as often as it is met; a slice's spare places count too). A statement '..UptoSaid' is the law's where the arguments, and the package variables that the reading takes, are together of bulk at most 1048576: NARROWER than '..Said'. Prove '..Said' where nothing that the law and all that it calls make is longer than what came in: it says more and counts as full. Else prove '..UptoSaid'. A law counts once. -/
mutual
def uptoBulk {H : Type} : DataW H → Nat
  | .lit (.string bytes) => bytes.length + 1
  | .lit _ => 1
  | .nil => 1
  | .ptr d => uptoBulk d + 1
  | .slice elems spare => uptoBulkAll elems + uptoBulkAll spare + 1
  | .agg parts => uptoBulkAll parts + 1
  | .iface _ d => uptoBulk d + 1
  | .map entries => uptoBulkEntries entries + 1
  | .held _ => 1
def uptoBulkAll {H : Type} : List (DataW H) → Nat
  | [] => 0
  | d :: r => uptoBulk d + uptoBulkAll r
def uptoBulkEntries {H : Type} : List (Lit × DataW H) → Nat
  | [] => 0
  | x :: r => uptoBulkEntry x + uptoBulkEntries r
def uptoBulkEntry {H : Type} : Lit × DataW H → Nat
  | (.string bytes, d) => bytes.length + uptoBulk d + 1
  | (_, d) => uptoBulk d + 1
 end
def uptoSmall : (H : Type) → List (DataW H) → Bool := fun _ ds => decide (uptoBulkAll ds ≤ 1048576)
def OpenSpec.upto (s : _root_.Go.ChangeSpec) : _root_.Go.OpenSpec := { _root_.Go.OpenSpec.ofChange s with cond := some uptoSmall }

/-- 'caucuslaw18.GraphDone', WHERE WHAT IT READS IS OF BULK AT MOST 1048576: true; the input reads as it did. -/
def graphDoneUptoRow : OpenClaim := { program := "ytnjgjhjilolanaa", sum := "63893ddea23ed4a1482e9399faedba04585c17aecbb9facdadc56e63e820f698", func := "caucus/caucuslaw18.GraphDone", spec := "graphDone", unfollowed := true, recurses := true, plainKeys := false, apart := false, narrowed := true }
def GraphDoneUptoSaid : Prop := graphDoneUptoRow.holds Try.pinned (OpenSpec.upto graphDoneSpec)

/-- 'caucuslaw18.GraphOrders', WHERE WHAT IT READS IS OF BULK AT MOST 1048576: true; the input reads as it did. -/
def graphOrdersUptoRow : OpenClaim := { program := "ytnjgjhjilolanaa", sum := "63893ddea23ed4a1482e9399faedba04585c17aecbb9facdadc56e63e820f698", func := "caucus/caucuslaw18.GraphOrders", spec := "graphOrders", unfollowed := true, recurses := true, plainKeys := false, apart := false, narrowed := true }
def GraphOrdersUptoSaid : Prop := graphOrdersUptoRow.holds Try.pinned (OpenSpec.upto graphOrdersSpec)

/-- 'caucuslaw18.GraphOnce', WHERE WHAT IT READS IS OF BULK AT MOST 1048576: true; the input reads as it did. -/
def graphOnceUptoRow : OpenClaim := { program := "ytnjgjhjilolanaa", sum := "63893ddea23ed4a1482e9399faedba04585c17aecbb9facdadc56e63e820f698", func := "caucus/caucuslaw18.GraphOnce", spec := "graphOnce", unfollowed := true, recurses := true, plainKeys := false, apart := false, narrowed := true }
def GraphOnceUptoSaid : Prop := graphOnceUptoRow.holds Try.pinned (OpenSpec.upto graphOnceSpec)

/-- 'caucuslaw19.RunSame', WHERE WHAT IT READS IS OF BULK AT MOST 1048576: true; the input reads as it did. -/
def runSameUptoRow : OpenClaim := { program := "ytnjgjhjilolanaa", sum := "63893ddea23ed4a1482e9399faedba04585c17aecbb9facdadc56e63e820f698", func := "caucus/caucuslaw19.RunSame", spec := "runSame", unfollowed := true, recurses := true, plainKeys := false, apart := false, narrowed := true }
def RunSameUptoSaid : Prop := runSameUptoRow.holds Try.pinned (OpenSpec.upto runSameSpec)

/-- 'caucuslaw19.RunLeft', WHERE WHAT IT READS IS OF BULK AT MOST 1048576: true; the input reads as it did. -/
def runLeftUptoRow : OpenClaim := { program := "ytnjgjhjilolanaa", sum := "63893ddea23ed4a1482e9399faedba04585c17aecbb9facdadc56e63e820f698", func := "caucus/caucuslaw19.RunLeft", spec := "runLeft", unfollowed := true, recurses := true, plainKeys := false, apart := false, narrowed := true }
def RunLeftUptoSaid : Prop := runLeftUptoRow.holds Try.pinned (OpenSpec.upto runLeftSpec)

/-- 'caucuslaw19.RunFills', WHERE WHAT IT READS IS OF BULK AT MOST 1048576: true; the input reads as it did. -/
def runFillsUptoRow : OpenClaim := { program := "ytnjgjhjilolanaa", sum := "63893ddea23ed4a1482e9399faedba04585c17aecbb9facdadc56e63e820f698", func := "caucus/caucuslaw19.RunFills", spec := "runFills", unfollowed := true, recurses := true, plainKeys := false, apart := false, narrowed := true }
def RunFillsUptoSaid : Prop := runFillsUptoRow.holds Try.pinned (OpenSpec.upto runFillsSpec)

/-- 'caucuslaw19.RunDoes', WHERE WHAT IT READS IS OF BULK AT MOST 1048576: true; the input reads as it did. -/
def runDoesUptoRow : OpenClaim := { program := "ytnjgjhjilolanaa", sum := "63893ddea23ed4a1482e9399faedba04585c17aecbb9facdadc56e63e820f698", func := "caucus/caucuslaw19.RunDoes", spec := "runDoes", unfollowed := true, recurses := true, plainKeys := false, apart := false, narrowed := true }
def RunDoesUptoSaid : Prop := runDoesUptoRow.holds Try.pinned (OpenSpec.upto runDoesSpec)

end Rows
end Go.Proofs.Ytnjgjhjilolanaa
