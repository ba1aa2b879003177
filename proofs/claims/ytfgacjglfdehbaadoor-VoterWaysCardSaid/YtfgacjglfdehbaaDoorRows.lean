/-
  NARROWER THAN 'FOR EVERY INPUT', by the rows' own cells (each row's printed sentence says how): VoterCommitted: laid · VoterNacks: laid · VoterWays: laid · VoterOnce: laid.
  DERIVED. THE GIVEN ROWS OF THIS SEAT. 4 by the template 'for every input the law returns true; each argument reads behind the call as it read before'; 0 by the template 'total and deterministic' (their statements: YtfgacjglfdehbaaDoorTotals.lean).
  GIVEN WITH THE SEED: the statements are not yours to turn. If you find one false, say at which input.
  Laid BY PROGRAM, IN A SANDBOX (cutbox-rows.mjs): the forced cells as the released guide's own fill.sh prints them over the translation 2c686350ba570700… (all of the seat's roots in one cut). By AI agents, Wed Nov 11 2026. No macro, syntax, notation, axiom, sorry.
-/
import Derived.Test.YtfgacjglfdehbaaDoorChecked
import GoSem.Claim
import GoSem.ClaimJoined
import GoSem.ClaimMapViews
import Derived.JoinedTies
import Derived.KernelRfl
namespace Go.Proofs.YtfgacjglfdehbaaDoor
/- THE CELL 'sum', in the pinned program and in every row, IS THE sha256 OF THE DUMP (.gsa) THAT YtfgacjglfdehbaaDoorProg.lean LOADS. Nothing in Lean hashes anything: it is a label: what it is worth is what the hold of that sum in a sandbox is worth. -/
noncomputable def Tryd.pinned : Pinned := { name := "ytfgacjglfdehbaadoor", sum := "2c686350ba570700412b31feb3f3a94bc043ea1c14f4e2a81289e97b99b8adce", checked := Tryd.checked }
namespace Rows
def none {H : Type} : Left H := { results := [], args := [] }

/- WHAT THE LISTED PACKAGE-LEVEL VARIABLES READ AS WHEN THE CALL BEGINS. Each datum BY PROGRAM (the guide's laid-datum.mjs) off the statement by which the dump's own 'gosem.cut.vars' lays the variable. In a bare row this is a premise. The card (YtfgacjglfdehbaaDoorCards.lean) ties it to the program's text. -/
def laid_caucus_mail_kinds {H : Type} : DataW H := .agg [.agg [.lit (.bool false), .lit (.bool false)], .agg [.lit (.bool true), .lit (.bool false)], .agg [.lit (.bool true), .lit (.bool false)], .agg [.lit (.bool true), .lit (.bool false)], .agg [.lit (.bool false), .lit (.bool false)], .agg [.lit (.bool true), .lit (.bool false)], .agg [.lit (.bool false), .lit (.bool false)], .agg [.lit (.bool true), .lit (.bool true)], .agg [.lit (.bool false), .lit (.bool false)]]

/-- 'caucuslaw15.VoterCommitted': WHATEVER THE INPUT: true; the input reads as it did. -/
def voterCommittedSpec : ChangeSpec := { name := "voterCommitted", fn := fun _ => fun
  | [d1, d2, d3, d4] => { results := [.lit (.bool true)], args := [d1, d2, d3, d4] }
  | _ => none }
def voterCommittedRow : OpenClaim := { program := "ytfgacjglfdehbaadoor", sum := "2c686350ba570700412b31feb3f3a94bc043ea1c14f4e2a81289e97b99b8adce", func := "caucus/caucuslaw15.VoterCommitted", spec := "voterCommitted", unfollowed := true, recurses := true, named := ["caucus/mail.kinds"], apart := false, laid := [("caucus/mail.kinds", laid_caucus_mail_kinds)] }
def VoterCommittedSaid : Prop := voterCommittedRow.holds Tryd.pinned (OpenSpec.ofChange voterCommittedSpec)

/-- ITS FALSE NEIGHBOUR: 'it returns false'. Refute it at one input. -/
def voterCommittedWrong : ChangeSpec := { name := "voterCommitted", fn := fun _ => fun
  | [d1, d2, d3, d4] => { results := [.lit (.bool false)], args := [d1, d2, d3, d4] }
  | _ => none }
def VoterCommittedWrongFalsely : Prop := voterCommittedRow.holds Tryd.pinned (OpenSpec.ofChange voterCommittedWrong)

/-- 'caucuslaw15.VoterNacks': WHATEVER THE INPUT: true; the input reads as it did. -/
def voterNacksSpec : ChangeSpec := { name := "voterNacks", fn := fun _ => fun
  | [d1, d2, d3] => { results := [.lit (.bool true)], args := [d1, d2, d3] }
  | _ => none }
def voterNacksRow : OpenClaim := { program := "ytfgacjglfdehbaadoor", sum := "2c686350ba570700412b31feb3f3a94bc043ea1c14f4e2a81289e97b99b8adce", func := "caucus/caucuslaw15.VoterNacks", spec := "voterNacks", unfollowed := true, recurses := true, named := ["caucus/mail.kinds"], apart := false, laid := [("caucus/mail.kinds", laid_caucus_mail_kinds)] }
def VoterNacksSaid : Prop := voterNacksRow.holds Tryd.pinned (OpenSpec.ofChange voterNacksSpec)

/-- ITS FALSE NEIGHBOUR: 'it returns false'. Refute it at one input. -/
def voterNacksWrong : ChangeSpec := { name := "voterNacks", fn := fun _ => fun
  | [d1, d2, d3] => { results := [.lit (.bool false)], args := [d1, d2, d3] }
  | _ => none }
def VoterNacksWrongFalsely : Prop := voterNacksRow.holds Tryd.pinned (OpenSpec.ofChange voterNacksWrong)

/-- 'caucuslaw15.VoterWays': WHATEVER THE INPUT: true; the input reads as it did. -/
def voterWaysSpec : ChangeSpec := { name := "voterWays", fn := fun _ => fun
  | [d1, d2, d3, d4] => { results := [.lit (.bool true)], args := [d1, d2, d3, d4] }
  | _ => none }
def voterWaysRow : OpenClaim := { program := "ytfgacjglfdehbaadoor", sum := "2c686350ba570700412b31feb3f3a94bc043ea1c14f4e2a81289e97b99b8adce", func := "caucus/caucuslaw15.VoterWays", spec := "voterWays", unfollowed := true, recurses := true, named := ["caucus/mail.kinds"], apart := false, laid := [("caucus/mail.kinds", laid_caucus_mail_kinds)] }
def VoterWaysSaid : Prop := voterWaysRow.holds Tryd.pinned (OpenSpec.ofChange voterWaysSpec)

/-- ITS FALSE NEIGHBOUR: 'it returns false'. Refute it at one input. -/
def voterWaysWrong : ChangeSpec := { name := "voterWays", fn := fun _ => fun
  | [d1, d2, d3, d4] => { results := [.lit (.bool false)], args := [d1, d2, d3, d4] }
  | _ => none }
def VoterWaysWrongFalsely : Prop := voterWaysRow.holds Tryd.pinned (OpenSpec.ofChange voterWaysWrong)

/-- 'caucuslaw15.VoterOnce': WHATEVER THE INPUT: true; the input reads as it did. -/
def voterOnceSpec : ChangeSpec := { name := "voterOnce", fn := fun _ => fun
  | [d1, d2, d3] => { results := [.lit (.bool true)], args := [d1, d2, d3] }
  | _ => none }
def voterOnceRow : OpenClaim := { program := "ytfgacjglfdehbaadoor", sum := "2c686350ba570700412b31feb3f3a94bc043ea1c14f4e2a81289e97b99b8adce", func := "caucus/caucuslaw15.VoterOnce", spec := "voterOnce", unfollowed := true, recurses := true, named := ["caucus/mail.kinds"], apart := false, laid := [("caucus/mail.kinds", laid_caucus_mail_kinds)] }
def VoterOnceSaid : Prop := voterOnceRow.holds Tryd.pinned (OpenSpec.ofChange voterOnceSpec)

/-- ITS FALSE NEIGHBOUR: 'it returns false'. Refute it at one input. -/
def voterOnceWrong : ChangeSpec := { name := "voterOnce", fn := fun _ => fun
  | [d1, d2, d3] => { results := [.lit (.bool false)], args := [d1, d2, d3] }
  | _ => none }
def VoterOnceWrongFalsely : Prop := voterOnceRow.holds Tryd.pinned (OpenSpec.ofChange voterOnceWrong)

/- THE SECOND FORM. 'bulk': how many values and letters a reading holds, each counted each time it is reached (what is shared counts as often as it is met; a slice's spare places count too). A statement '..UptoSaid' is the law's where the arguments, and the package variables that the reading takes, are together of bulk at most 1048576: NARROWER than '..Said'. Prove '..Said' where nothing that the law and all that it calls make is longer than what came in: it says more and counts as full. Else prove '..UptoSaid'. A law counts once. -/
mutual
def uptoBulk {H : Type} : DataW H → Nat
  | .lit (.string bytes) => bytes.length + 1
  | .lit _ => 1
  | .nil => 1
  | .ptr d => uptoBulk d + 1
  | .slice elems spare => uptoBulkAll elems + uptoBulkAll spare + 1
  | .agg parts => uptoBulkAll parts + 1
  | .iface _ d => uptoBulk d + 1
  | .map entries => uptoBulkEntries entries + 1
  | .held _ => 1
def uptoBulkAll {H : Type} : List (DataW H) → Nat
  | [] => 0
  | d :: r => uptoBulk d + uptoBulkAll r
def uptoBulkEntries {H : Type} : List (Lit × DataW H) → Nat
  | [] => 0
  | x :: r => uptoBulkEntry x + uptoBulkEntries r
def uptoBulkEntry {H : Type} : Lit × DataW H → Nat
  | (.string bytes, d) => bytes.length + uptoBulk d + 1
  | (_, d) => uptoBulk d + 1
 end
def uptoSmall : (H : Type) → List (DataW H) → Bool := fun _ ds => decide (uptoBulkAll ds ≤ 1048576)
def OpenSpec.upto (s : _root_.Go.ChangeSpec) : _root_.Go.OpenSpec := { _root_.Go.OpenSpec.ofChange s with cond := some uptoSmall }

/-- 'caucuslaw15.VoterCommitted', WHERE WHAT IT READS IS OF BULK AT MOST 1048576: true; the input reads as it did. -/
def voterCommittedUptoRow : OpenClaim := { program := "ytfgacjglfdehbaadoor", sum := "2c686350ba570700412b31feb3f3a94bc043ea1c14f4e2a81289e97b99b8adce", func := "caucus/caucuslaw15.VoterCommitted", spec := "voterCommitted", unfollowed := true, recurses := true, named := ["caucus/mail.kinds"], apart := false, laid := [("caucus/mail.kinds", laid_caucus_mail_kinds)], narrowed := true }
def VoterCommittedUptoSaid : Prop := voterCommittedUptoRow.holds Tryd.pinned (OpenSpec.upto voterCommittedSpec)

/-- 'caucuslaw15.VoterNacks', WHERE WHAT IT READS IS OF BULK AT MOST 1048576: true; the input reads as it did. -/
def voterNacksUptoRow : OpenClaim := { program := "ytfgacjglfdehbaadoor", sum := "2c686350ba570700412b31feb3f3a94bc043ea1c14f4e2a81289e97b99b8adce", func := "caucus/caucuslaw15.VoterNacks", spec := "voterNacks", unfollowed := true, recurses := true, named := ["caucus/mail.kinds"], apart := false, laid := [("caucus/mail.kinds", laid_caucus_mail_kinds)], narrowed := true }
def VoterNacksUptoSaid : Prop := voterNacksUptoRow.holds Tryd.pinned (OpenSpec.upto voterNacksSpec)

/-- 'caucuslaw15.VoterWays', WHERE WHAT IT READS IS OF BULK AT MOST 1048576: true; the input reads as it did. -/
def voterWaysUptoRow : OpenClaim := { program := "ytfgacjglfdehbaadoor", sum := "2c686350ba570700412b31feb3f3a94bc043ea1c14f4e2a81289e97b99b8adce", func := "caucus/caucuslaw15.VoterWays", spec := "voterWays", unfollowed := true, recurses := true, named := ["caucus/mail.kinds"], apart := false, laid := [("caucus/mail.kinds", laid_caucus_mail_kinds)], narrowed := true }
def VoterWaysUptoSaid : Prop := voterWaysUptoRow.holds Tryd.pinned (OpenSpec.upto voterWaysSpec)

/-- 'caucuslaw15.VoterOnce', WHERE WHAT IT READS IS OF BULK AT MOST 1048576: true; the input reads as it did. -/
def voterOnceUptoRow : OpenClaim := { program := "ytfgacjglfdehbaadoor", sum := "2c686350ba570700412b31feb3f3a94bc043ea1c14f4e2a81289e97b99b8adce", func := "caucus/caucuslaw15.VoterOnce", spec := "voterOnce", unfollowed := true, recurses := true, named := ["caucus/mail.kinds"], apart := false, laid := [("caucus/mail.kinds", laid_caucus_mail_kinds)], narrowed := true }
def VoterOnceUptoSaid : Prop := voterOnceUptoRow.holds Tryd.pinned (OpenSpec.upto voterOnceSpec)

end Rows
end Go.Proofs.YtfgacjglfdehbaaDoor
