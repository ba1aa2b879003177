/-
  No cell of these rows narrows 'for every input' (looked for: loops, veiled, ifaces, maps, wideKeys, modest, calm, conditions, laid).
  DERIVED. THE GIVEN ROWS OF THIS SEAT. 10 by the template 'for every input the law returns true; each argument reads behind the call as it read before'; 0 by the template 'total and deterministic' (their statements: YtpganpiidgkofaaTotals.lean).
  GIVEN WITH THE SEED: the statements are not yours to turn. If you find one false, say at which input.
  Laid BY PROGRAM, IN A SANDBOX (cutbox-rows.mjs): the forced cells as the released guide's own fill.sh prints them over the translation 127efcdb5fb01a99… (all of the seat's roots in one cut). By AI agents, Wed Nov 11 2026. No macro, syntax, notation, axiom, sorry.
-/
import Derived.Test.YtpganpiidgkofaaChecked
import GoSem.Claim
import GoSem.ClaimJoined
import GoSem.ClaimMapViews
import Derived.JoinedTies
import Derived.KernelRfl
namespace Go.Proofs.Ytpganpiidgkofaa
/- THE CELL 'sum', in the pinned program and in every row, IS THE sha256 OF THE DUMP (.gsa) THAT YtpganpiidgkofaaProg.lean LOADS. Nothing in Lean hashes anything: it is a label: what it is worth is what the hold of that sum in a sandbox is worth. -/
noncomputable def Try.pinned : Pinned := { name := "ytpganpiidgkofaa", sum := "127efcdb5fb01a99ee698da209731a67b32a5b46bcde988e2abfc1440e394ecd", checked := Try.checked }
namespace Rows
def none {H : Type} : Left H := { results := [], args := [] }

/-- 'caucuslaw09.LedgerTight': WHATEVER THE INPUT: true; the input reads as it did. -/
def ledgerTightSpec : ChangeSpec := { name := "ledgerTight", fn := fun _ => fun
  | [d1, d2] => { results := [.lit (.bool true)], args := [d1, d2] }
  | _ => none }
def ledgerTightRow : OpenClaim := { program := "ytpganpiidgkofaa", sum := "127efcdb5fb01a99ee698da209731a67b32a5b46bcde988e2abfc1440e394ecd", func := "caucus/caucuslaw09.LedgerTight", spec := "ledgerTight", unfollowed := true, recurses := true, plainKeys := false, apart := false }
def LedgerTightSaid : Prop := ledgerTightRow.holds Try.pinned (OpenSpec.ofChange ledgerTightSpec)

/-- ITS FALSE NEIGHBOUR: 'it returns false'. Refute it at one input. -/
def ledgerTightWrong : ChangeSpec := { name := "ledgerTight", fn := fun _ => fun
  | [d1, d2] => { results := [.lit (.bool false)], args := [d1, d2] }
  | _ => none }
def LedgerTightWrongFalsely : Prop := ledgerTightRow.holds Try.pinned (OpenSpec.ofChange ledgerTightWrong)

/-- 'caucuslaw09.LedgerReads': WHATEVER THE INPUT: true; the input reads as it did. -/
def ledgerReadsSpec : ChangeSpec := { name := "ledgerReads", fn := fun _ => fun
  | [d1, d2, d3, d4] => { results := [.lit (.bool true)], args := [d1, d2, d3, d4] }
  | _ => none }
def ledgerReadsRow : OpenClaim := { program := "ytpganpiidgkofaa", sum := "127efcdb5fb01a99ee698da209731a67b32a5b46bcde988e2abfc1440e394ecd", func := "caucus/caucuslaw09.LedgerReads", spec := "ledgerReads", unfollowed := true, recurses := true, plainKeys := false, apart := false }
def LedgerReadsSaid : Prop := ledgerReadsRow.holds Try.pinned (OpenSpec.ofChange ledgerReadsSpec)

/-- ITS FALSE NEIGHBOUR: 'it returns false'. Refute it at one input. -/
def ledgerReadsWrong : ChangeSpec := { name := "ledgerReads", fn := fun _ => fun
  | [d1, d2, d3, d4] => { results := [.lit (.bool false)], args := [d1, d2, d3, d4] }
  | _ => none }
def LedgerReadsWrongFalsely : Prop := ledgerReadsRow.holds Try.pinned (OpenSpec.ofChange ledgerReadsWrong)

/-- 'caucuslaw09.LedgerLasts': WHATEVER THE INPUT: true; the input reads as it did. -/
def ledgerLastsSpec : ChangeSpec := { name := "ledgerLasts", fn := fun _ => fun
  | [d1, d2] => { results := [.lit (.bool true)], args := [d1, d2] }
  | _ => none }
def ledgerLastsRow : OpenClaim := { program := "ytpganpiidgkofaa", sum := "127efcdb5fb01a99ee698da209731a67b32a5b46bcde988e2abfc1440e394ecd", func := "caucus/caucuslaw09.LedgerLasts", spec := "ledgerLasts", unfollowed := true, recurses := true, plainKeys := false, apart := false }
def LedgerLastsSaid : Prop := ledgerLastsRow.holds Try.pinned (OpenSpec.ofChange ledgerLastsSpec)

/-- ITS FALSE NEIGHBOUR: 'it returns false'. Refute it at one input. -/
def ledgerLastsWrong : ChangeSpec := { name := "ledgerLasts", fn := fun _ => fun
  | [d1, d2] => { results := [.lit (.bool false)], args := [d1, d2] }
  | _ => none }
def LedgerLastsWrongFalsely : Prop := ledgerLastsRow.holds Try.pinned (OpenSpec.ofChange ledgerLastsWrong)

/-- 'caucuslaw09.LedgerSynced': WHATEVER THE INPUT: true; the input reads as it did. -/
def ledgerSyncedSpec : ChangeSpec := { name := "ledgerSynced", fn := fun _ => fun
  | [d1, d2, d3, d4] => { results := [.lit (.bool true)], args := [d1, d2, d3, d4] }
  | _ => none }
def ledgerSyncedRow : OpenClaim := { program := "ytpganpiidgkofaa", sum := "127efcdb5fb01a99ee698da209731a67b32a5b46bcde988e2abfc1440e394ecd", func := "caucus/caucuslaw09.LedgerSynced", spec := "ledgerSynced", unfollowed := true, recurses := true, plainKeys := false, apart := false }
def LedgerSyncedSaid : Prop := ledgerSyncedRow.holds Try.pinned (OpenSpec.ofChange ledgerSyncedSpec)

/-- ITS FALSE NEIGHBOUR: 'it returns false'. Refute it at one input. -/
def ledgerSyncedWrong : ChangeSpec := { name := "ledgerSynced", fn := fun _ => fun
  | [d1, d2, d3, d4] => { results := [.lit (.bool false)], args := [d1, d2, d3, d4] }
  | _ => none }
def LedgerSyncedWrongFalsely : Prop := ledgerSyncedRow.holds Try.pinned (OpenSpec.ofChange ledgerSyncedWrong)

/-- 'caucuslaw12.SpaceOpens': WHATEVER THE INPUT: true; the input reads as it did. -/
def spaceOpensSpec : ChangeSpec := { name := "spaceOpens", fn := fun _ => fun
  | [d1, d2, d3, d4] => { results := [.lit (.bool true)], args := [d1, d2, d3, d4] }
  | _ => none }
def spaceOpensRow : OpenClaim := { program := "ytpganpiidgkofaa", sum := "127efcdb5fb01a99ee698da209731a67b32a5b46bcde988e2abfc1440e394ecd", func := "caucus/caucuslaw12.SpaceOpens", spec := "spaceOpens", unfollowed := true, recurses := true, plainKeys := false, apart := false }
def SpaceOpensSaid : Prop := spaceOpensRow.holds Try.pinned (OpenSpec.ofChange spaceOpensSpec)

/-- ITS FALSE NEIGHBOUR: 'it returns false'. Refute it at one input. -/
def spaceOpensWrong : ChangeSpec := { name := "spaceOpens", fn := fun _ => fun
  | [d1, d2, d3, d4] => { results := [.lit (.bool false)], args := [d1, d2, d3, d4] }
  | _ => none }
def SpaceOpensWrongFalsely : Prop := spaceOpensRow.holds Try.pinned (OpenSpec.ofChange spaceOpensWrong)

/-- 'caucuslaw12.SpaceNext': WHATEVER THE INPUT: true; the input reads as it did. -/
def spaceNextSpec : ChangeSpec := { name := "spaceNext", fn := fun _ => fun
  | [d1, d2, d3] => { results := [.lit (.bool true)], args := [d1, d2, d3] }
  | _ => none }
def spaceNextRow : OpenClaim := { program := "ytpganpiidgkofaa", sum := "127efcdb5fb01a99ee698da209731a67b32a5b46bcde988e2abfc1440e394ecd", func := "caucus/caucuslaw12.SpaceNext", spec := "spaceNext", unfollowed := true, recurses := true, plainKeys := false, apart := false }
def SpaceNextSaid : Prop := spaceNextRow.holds Try.pinned (OpenSpec.ofChange spaceNextSpec)

/-- ITS FALSE NEIGHBOUR: 'it returns false'. Refute it at one input. -/
def spaceNextWrong : ChangeSpec := { name := "spaceNext", fn := fun _ => fun
  | [d1, d2, d3] => { results := [.lit (.bool false)], args := [d1, d2, d3] }
  | _ => none }
def SpaceNextWrongFalsely : Prop := spaceNextRow.holds Try.pinned (OpenSpec.ofChange spaceNextWrong)

/-- 'caucuslaw24.AuditDumps': WHATEVER THE INPUT: true; the input reads as it did. -/
def auditDumpsSpec : ChangeSpec := { name := "auditDumps", fn := fun _ => fun
  | [d1, d2] => { results := [.lit (.bool true)], args := [d1, d2] }
  | _ => none }
def auditDumpsRow : OpenClaim := { program := "ytpganpiidgkofaa", sum := "127efcdb5fb01a99ee698da209731a67b32a5b46bcde988e2abfc1440e394ecd", func := "caucus/caucuslaw24.AuditDumps", spec := "auditDumps", unfollowed := true, recurses := true, plainKeys := false, apart := false }
def AuditDumpsSaid : Prop := auditDumpsRow.holds Try.pinned (OpenSpec.ofChange auditDumpsSpec)

/-- ITS FALSE NEIGHBOUR: 'it returns false'. Refute it at one input. -/
def auditDumpsWrong : ChangeSpec := { name := "auditDumps", fn := fun _ => fun
  | [d1, d2] => { results := [.lit (.bool false)], args := [d1, d2] }
  | _ => none }
def AuditDumpsWrongFalsely : Prop := auditDumpsRow.holds Try.pinned (OpenSpec.ofChange auditDumpsWrong)

/-- 'caucuslaw12.SpaceWays': WHATEVER THE INPUT: true; the input reads as it did. -/
def spaceWaysSpec : ChangeSpec := { name := "spaceWays", fn := fun _ => fun
  | [d1, d2, d3, d4] => { results := [.lit (.bool true)], args := [d1, d2, d3, d4] }
  | _ => none }
def spaceWaysRow : OpenClaim := { program := "ytpganpiidgkofaa", sum := "127efcdb5fb01a99ee698da209731a67b32a5b46bcde988e2abfc1440e394ecd", func := "caucus/caucuslaw12.SpaceWays", spec := "spaceWays", unfollowed := true, recurses := true, plainKeys := false, apart := false }
def SpaceWaysSaid : Prop := spaceWaysRow.holds Try.pinned (OpenSpec.ofChange spaceWaysSpec)

/-- ITS FALSE NEIGHBOUR: 'it returns false'. Refute it at one input. -/
def spaceWaysWrong : ChangeSpec := { name := "spaceWays", fn := fun _ => fun
  | [d1, d2, d3, d4] => { results := [.lit (.bool false)], args := [d1, d2, d3, d4] }
  | _ => none }
def SpaceWaysWrongFalsely : Prop := spaceWaysRow.holds Try.pinned (OpenSpec.ofChange spaceWaysWrong)

/-- 'caucuslaw12.SpaceSecond': WHATEVER THE INPUT: true; the input reads as it did. -/
def spaceSecondSpec : ChangeSpec := { name := "spaceSecond", fn := fun _ => fun
  | [d1, d2, d3, d4, d5, d6] => { results := [.lit (.bool true)], args := [d1, d2, d3, d4, d5, d6] }
  | _ => none }
def spaceSecondRow : OpenClaim := { program := "ytpganpiidgkofaa", sum := "127efcdb5fb01a99ee698da209731a67b32a5b46bcde988e2abfc1440e394ecd", func := "caucus/caucuslaw12.SpaceSecond", spec := "spaceSecond", unfollowed := true, recurses := true, plainKeys := false, apart := false }
def SpaceSecondSaid : Prop := spaceSecondRow.holds Try.pinned (OpenSpec.ofChange spaceSecondSpec)

/-- ITS FALSE NEIGHBOUR: 'it returns false'. Refute it at one input. -/
def spaceSecondWrong : ChangeSpec := { name := "spaceSecond", fn := fun _ => fun
  | [d1, d2, d3, d4, d5, d6] => { results := [.lit (.bool false)], args := [d1, d2, d3, d4, d5, d6] }
  | _ => none }
def SpaceSecondWrongFalsely : Prop := spaceSecondRow.holds Try.pinned (OpenSpec.ofChange spaceSecondWrong)

/-- 'caucuslaw12.SpaceKnows': WHATEVER THE INPUT: true; the input reads as it did. -/
def spaceKnowsSpec : ChangeSpec := { name := "spaceKnows", fn := fun _ => fun
  | [d1, d2, d3] => { results := [.lit (.bool true)], args := [d1, d2, d3] }
  | _ => none }
def spaceKnowsRow : OpenClaim := { program := "ytpganpiidgkofaa", sum := "127efcdb5fb01a99ee698da209731a67b32a5b46bcde988e2abfc1440e394ecd", func := "caucus/caucuslaw12.SpaceKnows", spec := "spaceKnows", unfollowed := true, recurses := true, plainKeys := false, apart := false }
def SpaceKnowsSaid : Prop := spaceKnowsRow.holds Try.pinned (OpenSpec.ofChange spaceKnowsSpec)

/-- ITS FALSE NEIGHBOUR: 'it returns false'. Refute it at one input. -/
def spaceKnowsWrong : ChangeSpec := { name := "spaceKnows", fn := fun _ => fun
  | [d1, d2, d3] => { results := [.lit (.bool false)], args := [d1, d2, d3] }
  | _ => none }
def SpaceKnowsWrongFalsely : Prop := spaceKnowsRow.holds Try.pinned (OpenSpec.ofChange spaceKnowsWrong)

/- THE SECOND FORM. 'bulk': how many values and letters a reading holds, each counted each time it is reached (what is shared counts as often as it is met; a slice's spare places count too). A statement '..UptoSaid' is the law's where the arguments, and the package variables that the reading takes, are together of bulk at most 1048576: NARROWER than '..Said'. Prove '..Said' where nothing that the law and all that it calls make is longer than what came in: it says more and counts as full. Else prove '..UptoSaid'. A law counts once. -/
mutual
def uptoBulk {H : Type} : DataW H → Nat
  | .lit (.string bytes) => bytes.length + 1
  | .lit _ => 1
  | .nil => 1
  | .ptr d => uptoBulk d + 1
  | .slice elems spare => uptoBulkAll elems + uptoBulkAll spare + 1
  | .agg parts => uptoBulkAll parts + 1
  | .iface _ d => uptoBulk d + 1
  | .map entries => uptoBulkEntries entries + 1
  | .held _ => 1
def uptoBulkAll {H : Type} : List (DataW H) → Nat
  | [] => 0
  | d :: r => uptoBulk d + uptoBulkAll r
def uptoBulkEntries {H : Type} : List (Lit × DataW H) → Nat
  | [] => 0
  | x :: r => uptoBulkEntry x + uptoBulkEntries r
def uptoBulkEntry {H : Type} : Lit × DataW H → Nat
  | (.string bytes, d) => bytes.length + uptoBulk d + 1
  | (_, d) => uptoBulk d + 1
 end
def uptoSmall : (H : Type) → List (DataW H) → Bool := fun _ ds => decide (uptoBulkAll ds ≤ 1048576)
def OpenSpec.upto (s : _root_.Go.ChangeSpec) : _root_.Go.OpenSpec := { _root_.Go.OpenSpec.ofChange s with cond := some uptoSmall }

/-- 'caucuslaw09.LedgerTight', WHERE WHAT IT READS IS OF BULK AT MOST 1048576: true; the input reads as it did. -/
def ledgerTightUptoRow : OpenClaim := { program := "ytpganpiidgkofaa", sum := "127efcdb5fb01a99ee698da209731a67b32a5b46bcde988e2abfc1440e394ecd", func := "caucus/caucuslaw09.LedgerTight", spec := "ledgerTight", unfollowed := true, recurses := true, plainKeys := false, apart := false, narrowed := true }
def LedgerTightUptoSaid : Prop := ledgerTightUptoRow.holds Try.pinned (OpenSpec.upto ledgerTightSpec)

/-- 'caucuslaw09.LedgerReads', WHERE WHAT IT READS IS OF BULK AT MOST 1048576: true; the input reads as it did. -/
def ledgerReadsUptoRow : OpenClaim := { program := "ytpganpiidgkofaa", sum := "127efcdb5fb01a99ee698da209731a67b32a5b46bcde988e2abfc1440e394ecd", func := "caucus/caucuslaw09.LedgerReads", spec := "ledgerReads", unfollowed := true, recurses := true, plainKeys := false, apart := false, narrowed := true }
def LedgerReadsUptoSaid : Prop := ledgerReadsUptoRow.holds Try.pinned (OpenSpec.upto ledgerReadsSpec)

/-- 'caucuslaw09.LedgerLasts', WHERE WHAT IT READS IS OF BULK AT MOST 1048576: true; the input reads as it did. -/
def ledgerLastsUptoRow : OpenClaim := { program := "ytpganpiidgkofaa", sum := "127efcdb5fb01a99ee698da209731a67b32a5b46bcde988e2abfc1440e394ecd", func := "caucus/caucuslaw09.LedgerLasts", spec := "ledgerLasts", unfollowed := true, recurses := true, plainKeys := false, apart := false, narrowed := true }
def LedgerLastsUptoSaid : Prop := ledgerLastsUptoRow.holds Try.pinned (OpenSpec.upto ledgerLastsSpec)

/-- 'caucuslaw09.LedgerSynced', WHERE WHAT IT READS IS OF BULK AT MOST 1048576: true; the input reads as it did. -/
def ledgerSyncedUptoRow : OpenClaim := { program := "ytpganpiidgkofaa", sum := "127efcdb5fb01a99ee698da209731a67b32a5b46bcde988e2abfc1440e394ecd", func := "caucus/caucuslaw09.LedgerSynced", spec := "ledgerSynced", unfollowed := true, recurses := true, plainKeys := false, apart := false, narrowed := true }
def LedgerSyncedUptoSaid : Prop := ledgerSyncedUptoRow.holds Try.pinned (OpenSpec.upto ledgerSyncedSpec)

/-- 'caucuslaw12.SpaceOpens', WHERE WHAT IT READS IS OF BULK AT MOST 1048576: true; the input reads as it did. -/
def spaceOpensUptoRow : OpenClaim := { program := "ytpganpiidgkofaa", sum := "127efcdb5fb01a99ee698da209731a67b32a5b46bcde988e2abfc1440e394ecd", func := "caucus/caucuslaw12.SpaceOpens", spec := "spaceOpens", unfollowed := true, recurses := true, plainKeys := false, apart := false, narrowed := true }
def SpaceOpensUptoSaid : Prop := spaceOpensUptoRow.holds Try.pinned (OpenSpec.upto spaceOpensSpec)

/-- 'caucuslaw12.SpaceNext', WHERE WHAT IT READS IS OF BULK AT MOST 1048576: true; the input reads as it did. -/
def spaceNextUptoRow : OpenClaim := { program := "ytpganpiidgkofaa", sum := "127efcdb5fb01a99ee698da209731a67b32a5b46bcde988e2abfc1440e394ecd", func := "caucus/caucuslaw12.SpaceNext", spec := "spaceNext", unfollowed := true, recurses := true, plainKeys := false, apart := false, narrowed := true }
def SpaceNextUptoSaid : Prop := spaceNextUptoRow.holds Try.pinned (OpenSpec.upto spaceNextSpec)

/-- 'caucuslaw24.AuditDumps', WHERE WHAT IT READS IS OF BULK AT MOST 1048576: true; the input reads as it did. -/
def auditDumpsUptoRow : OpenClaim := { program := "ytpganpiidgkofaa", sum := "127efcdb5fb01a99ee698da209731a67b32a5b46bcde988e2abfc1440e394ecd", func := "caucus/caucuslaw24.AuditDumps", spec := "auditDumps", unfollowed := true, recurses := true, plainKeys := false, apart := false, narrowed := true }
def AuditDumpsUptoSaid : Prop := auditDumpsUptoRow.holds Try.pinned (OpenSpec.upto auditDumpsSpec)

/-- 'caucuslaw12.SpaceWays', WHERE WHAT IT READS IS OF BULK AT MOST 1048576: true; the input reads as it did. -/
def spaceWaysUptoRow : OpenClaim := { program := "ytpganpiidgkofaa", sum := "127efcdb5fb01a99ee698da209731a67b32a5b46bcde988e2abfc1440e394ecd", func := "caucus/caucuslaw12.SpaceWays", spec := "spaceWays", unfollowed := true, recurses := true, plainKeys := false, apart := false, narrowed := true }
def SpaceWaysUptoSaid : Prop := spaceWaysUptoRow.holds Try.pinned (OpenSpec.upto spaceWaysSpec)

/-- 'caucuslaw12.SpaceSecond', WHERE WHAT IT READS IS OF BULK AT MOST 1048576: true; the input reads as it did. -/
def spaceSecondUptoRow : OpenClaim := { program := "ytpganpiidgkofaa", sum := "127efcdb5fb01a99ee698da209731a67b32a5b46bcde988e2abfc1440e394ecd", func := "caucus/caucuslaw12.SpaceSecond", spec := "spaceSecond", unfollowed := true, recurses := true, plainKeys := false, apart := false, narrowed := true }
def SpaceSecondUptoSaid : Prop := spaceSecondUptoRow.holds Try.pinned (OpenSpec.upto spaceSecondSpec)

/-- 'caucuslaw12.SpaceKnows', WHERE WHAT IT READS IS OF BULK AT MOST 1048576: true; the input reads as it did. -/
def spaceKnowsUptoRow : OpenClaim := { program := "ytpganpiidgkofaa", sum := "127efcdb5fb01a99ee698da209731a67b32a5b46bcde988e2abfc1440e394ecd", func := "caucus/caucuslaw12.SpaceKnows", spec := "spaceKnows", unfollowed := true, recurses := true, plainKeys := false, apart := false, narrowed := true }
def SpaceKnowsUptoSaid : Prop := spaceKnowsUptoRow.holds Try.pinned (OpenSpec.upto spaceKnowsSpec)

end Rows
end Go.Proofs.Ytpganpiidgkofaa
