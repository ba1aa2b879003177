/-
  NARROWER THAN 'FOR EVERY INPUT', by the rows' own cells (each row's printed sentence says how): MailUnlike: laid · MailBare: laid · MailBytes: laid · MailReads: laid · MailCuts: laid.
  DERIVED. THE GIVEN ROWS OF THIS SEAT. 5 by the template 'for every input the law returns true; each argument reads behind the call as it read before'; 0 by the template 'total and deterministic' (their statements: YtahajjfbkdocaaaDoorTotals.lean).
  GIVEN WITH THE SEED: the statements are not yours to turn. If you find one false, say at which input.
  Laid BY PROGRAM, IN A SANDBOX (cutbox-rows.mjs): the forced cells as the released guide's own fill.sh prints them over the translation d14c5167a9916e50… (all of the seat's roots in one cut). By AI agents, Wed Nov 11 2026. No macro, syntax, notation, axiom, sorry.
-/
import Derived.Test.YtahajjfbkdocaaaDoorChecked
import GoSem.Claim
import GoSem.ClaimJoined
import GoSem.ClaimMapViews
import Derived.JoinedTies
import Derived.KernelRfl
namespace Go.Proofs.YtahajjfbkdocaaaDoor
/- THE CELL 'sum', in the pinned program and in every row, IS THE sha256 OF THE DUMP (.gsa) THAT YtahajjfbkdocaaaDoorProg.lean LOADS. Nothing in Lean hashes anything: it is a label: what it is worth is what the hold of that sum in a sandbox is worth. -/
noncomputable def Tryd.pinned : Pinned := { name := "ytahajjfbkdocaaadoor", sum := "d14c5167a9916e50f167bed17672c57b62184cde00a24befeb7976d3457753c6", checked := Tryd.checked }
namespace Rows
def none {H : Type} : Left H := { results := [], args := [] }

/- WHAT THE LISTED PACKAGE-LEVEL VARIABLES READ AS WHEN THE CALL BEGINS. Each datum BY PROGRAM (the guide's laid-datum.mjs) off the statement by which the dump's own 'gosem.cut.vars' lays the variable. In a bare row this is a premise. The card (YtahajjfbkdocaaaDoorCards.lean) ties it to the program's text. -/
def laid_caucus_mail_kinds {H : Type} : DataW H := .agg [.agg [.lit (.bool false), .lit (.bool false)], .agg [.lit (.bool true), .lit (.bool false)], .agg [.lit (.bool true), .lit (.bool false)], .agg [.lit (.bool true), .lit (.bool false)], .agg [.lit (.bool false), .lit (.bool false)], .agg [.lit (.bool true), .lit (.bool false)], .agg [.lit (.bool false), .lit (.bool false)], .agg [.lit (.bool true), .lit (.bool true)], .agg [.lit (.bool false), .lit (.bool false)]]

/-- 'caucuslaw07.MailUnlike': WHATEVER THE INPUT: true; the input reads as it did. -/
def mailUnlikeSpec : ChangeSpec := { name := "mailUnlike", fn := fun _ => fun
  | [d1, d2, d3] => { results := [.lit (.bool true)], args := [d1, d2, d3] }
  | _ => none }
def mailUnlikeRow : OpenClaim := { program := "ytahajjfbkdocaaadoor", sum := "d14c5167a9916e50f167bed17672c57b62184cde00a24befeb7976d3457753c6", func := "caucus/caucuslaw07.MailUnlike", spec := "mailUnlike", named := ["caucus/mail.kinds"], apart := false, laid := [("caucus/mail.kinds", laid_caucus_mail_kinds)] }
def MailUnlikeSaid : Prop := mailUnlikeRow.holds Tryd.pinned (OpenSpec.ofChange mailUnlikeSpec)

/-- ITS FALSE NEIGHBOUR: 'it returns false'. Refute it at one input. -/
def mailUnlikeWrong : ChangeSpec := { name := "mailUnlike", fn := fun _ => fun
  | [d1, d2, d3] => { results := [.lit (.bool false)], args := [d1, d2, d3] }
  | _ => none }
def MailUnlikeWrongFalsely : Prop := mailUnlikeRow.holds Tryd.pinned (OpenSpec.ofChange mailUnlikeWrong)

/-- 'caucuslaw07.MailBare': WHATEVER THE INPUT: true; the input reads as it did. -/
def mailBareSpec : ChangeSpec := { name := "mailBare", fn := fun _ => fun
  | [d1, d2, d3] => { results := [.lit (.bool true)], args := [d1, d2, d3] }
  | _ => none }
def mailBareRow : OpenClaim := { program := "ytahajjfbkdocaaadoor", sum := "d14c5167a9916e50f167bed17672c57b62184cde00a24befeb7976d3457753c6", func := "caucus/caucuslaw07.MailBare", spec := "mailBare", named := ["caucus/mail.kinds"], apart := false, laid := [("caucus/mail.kinds", laid_caucus_mail_kinds)] }
def MailBareSaid : Prop := mailBareRow.holds Tryd.pinned (OpenSpec.ofChange mailBareSpec)

/-- ITS FALSE NEIGHBOUR: 'it returns false'. Refute it at one input. -/
def mailBareWrong : ChangeSpec := { name := "mailBare", fn := fun _ => fun
  | [d1, d2, d3] => { results := [.lit (.bool false)], args := [d1, d2, d3] }
  | _ => none }
def MailBareWrongFalsely : Prop := mailBareRow.holds Tryd.pinned (OpenSpec.ofChange mailBareWrong)

/-- 'caucuslaw07.MailBytes': WHATEVER THE INPUT: true; the input reads as it did. -/
def mailBytesSpec : ChangeSpec := { name := "mailBytes", fn := fun _ => fun
  | [d1, d2] => { results := [.lit (.bool true)], args := [d1, d2] }
  | _ => none }
def mailBytesRow : OpenClaim := { program := "ytahajjfbkdocaaadoor", sum := "d14c5167a9916e50f167bed17672c57b62184cde00a24befeb7976d3457753c6", func := "caucus/caucuslaw07.MailBytes", spec := "mailBytes", named := ["caucus/mail.kinds"], apart := false, laid := [("caucus/mail.kinds", laid_caucus_mail_kinds)] }
def MailBytesSaid : Prop := mailBytesRow.holds Tryd.pinned (OpenSpec.ofChange mailBytesSpec)

/-- ITS FALSE NEIGHBOUR: 'it returns false'. Refute it at one input. -/
def mailBytesWrong : ChangeSpec := { name := "mailBytes", fn := fun _ => fun
  | [d1, d2] => { results := [.lit (.bool false)], args := [d1, d2] }
  | _ => none }
def MailBytesWrongFalsely : Prop := mailBytesRow.holds Tryd.pinned (OpenSpec.ofChange mailBytesWrong)

/-- 'caucuslaw07.MailReads': WHATEVER THE INPUT: true; the input reads as it did. -/
def mailReadsSpec : ChangeSpec := { name := "mailReads", fn := fun _ => fun
  | [d1, d2] => { results := [.lit (.bool true)], args := [d1, d2] }
  | _ => none }
def mailReadsRow : OpenClaim := { program := "ytahajjfbkdocaaadoor", sum := "d14c5167a9916e50f167bed17672c57b62184cde00a24befeb7976d3457753c6", func := "caucus/caucuslaw07.MailReads", spec := "mailReads", named := ["caucus/mail.kinds"], apart := false, laid := [("caucus/mail.kinds", laid_caucus_mail_kinds)] }
def MailReadsSaid : Prop := mailReadsRow.holds Tryd.pinned (OpenSpec.ofChange mailReadsSpec)

/-- ITS FALSE NEIGHBOUR: 'it returns false'. Refute it at one input. -/
def mailReadsWrong : ChangeSpec := { name := "mailReads", fn := fun _ => fun
  | [d1, d2] => { results := [.lit (.bool false)], args := [d1, d2] }
  | _ => none }
def MailReadsWrongFalsely : Prop := mailReadsRow.holds Tryd.pinned (OpenSpec.ofChange mailReadsWrong)

/-- 'caucuslaw07.MailCuts': WHATEVER THE INPUT: true; the input reads as it did. -/
def mailCutsSpec : ChangeSpec := { name := "mailCuts", fn := fun _ => fun
  | [d1, d2, d3, d4] => { results := [.lit (.bool true)], args := [d1, d2, d3, d4] }
  | _ => none }
def mailCutsRow : OpenClaim := { program := "ytahajjfbkdocaaadoor", sum := "d14c5167a9916e50f167bed17672c57b62184cde00a24befeb7976d3457753c6", func := "caucus/caucuslaw07.MailCuts", spec := "mailCuts", named := ["caucus/mail.kinds"], apart := false, laid := [("caucus/mail.kinds", laid_caucus_mail_kinds)] }
def MailCutsSaid : Prop := mailCutsRow.holds Tryd.pinned (OpenSpec.ofChange mailCutsSpec)

/-- ITS FALSE NEIGHBOUR: 'it returns false'. Refute it at one input. -/
def mailCutsWrong : ChangeSpec := { name := "mailCuts", fn := fun _ => fun
  | [d1, d2, d3, d4] => { results := [.lit (.bool false)], args := [d1, d2, d3, d4] }
  | _ => none }
def MailCutsWrongFalsely : Prop := mailCutsRow.holds Tryd.pinned (OpenSpec.ofChange mailCutsWrong)

/- THE SECOND FORM. 'bulk': how many values and letters a reading holds, each counted each time it is reached (what is shared counts as often as it is met; a slice's spare places count too). A statement '..UptoSaid' is the law's where the arguments, and the package variables that the reading takes, are together of bulk at most 1048576: NARROWER than '..Said'. Prove '..Said' where nothing that the law and all that it calls make is longer than what came in: it says more and counts as full. Else prove '..UptoSaid'. A law counts once. -/
mutual
def uptoBulk {H : Type} : DataW H → Nat
  | .lit (.string bytes) => bytes.length + 1
  | .lit _ => 1
  | .nil => 1
  | .ptr d => uptoBulk d + 1
  | .slice elems spare => uptoBulkAll elems + uptoBulkAll spare + 1
  | .agg parts => uptoBulkAll parts + 1
  | .iface _ d => uptoBulk d + 1
  | .map entries => uptoBulkEntries entries + 1
  | .held _ => 1
def uptoBulkAll {H : Type} : List (DataW H) → Nat
  | [] => 0
  | d :: r => uptoBulk d + uptoBulkAll r
def uptoBulkEntries {H : Type} : List (Lit × DataW H) → Nat
  | [] => 0
  | x :: r => uptoBulkEntry x + uptoBulkEntries r
def uptoBulkEntry {H : Type} : Lit × DataW H → Nat
  | (.string bytes, d) => bytes.length + uptoBulk d + 1
  | (_, d) => uptoBulk d + 1
 end
def uptoSmall : (H : Type) → List (DataW H) → Bool := fun _ ds => decide (uptoBulkAll ds ≤ 1048576)
def OpenSpec.upto (s : _root_.Go.ChangeSpec) : _root_.Go.OpenSpec := { _root_.Go.OpenSpec.ofChange s with cond := some uptoSmall }

/-- 'caucuslaw07.MailUnlike', WHERE WHAT IT READS IS OF BULK AT MOST 1048576: true; the input reads as it did. -/
def mailUnlikeUptoRow : OpenClaim := { program := "ytahajjfbkdocaaadoor", sum := "d14c5167a9916e50f167bed17672c57b62184cde00a24befeb7976d3457753c6", func := "caucus/caucuslaw07.MailUnlike", spec := "mailUnlike", named := ["caucus/mail.kinds"], apart := false, laid := [("caucus/mail.kinds", laid_caucus_mail_kinds)], narrowed := true }
def MailUnlikeUptoSaid : Prop := mailUnlikeUptoRow.holds Tryd.pinned (OpenSpec.upto mailUnlikeSpec)

/-- 'caucuslaw07.MailBare', WHERE WHAT IT READS IS OF BULK AT MOST 1048576: true; the input reads as it did. -/
def mailBareUptoRow : OpenClaim := { program := "ytahajjfbkdocaaadoor", sum := "d14c5167a9916e50f167bed17672c57b62184cde00a24befeb7976d3457753c6", func := "caucus/caucuslaw07.MailBare", spec := "mailBare", named := ["caucus/mail.kinds"], apart := false, laid := [("caucus/mail.kinds", laid_caucus_mail_kinds)], narrowed := true }
def MailBareUptoSaid : Prop := mailBareUptoRow.holds Tryd.pinned (OpenSpec.upto mailBareSpec)

/-- 'caucuslaw07.MailBytes', WHERE WHAT IT READS IS OF BULK AT MOST 1048576: true; the input reads as it did. -/
def mailBytesUptoRow : OpenClaim := { program := "ytahajjfbkdocaaadoor", sum := "d14c5167a9916e50f167bed17672c57b62184cde00a24befeb7976d3457753c6", func := "caucus/caucuslaw07.MailBytes", spec := "mailBytes", named := ["caucus/mail.kinds"], apart := false, laid := [("caucus/mail.kinds", laid_caucus_mail_kinds)], narrowed := true }
def MailBytesUptoSaid : Prop := mailBytesUptoRow.holds Tryd.pinned (OpenSpec.upto mailBytesSpec)

/-- 'caucuslaw07.MailReads', WHERE WHAT IT READS IS OF BULK AT MOST 1048576: true; the input reads as it did. -/
def mailReadsUptoRow : OpenClaim := { program := "ytahajjfbkdocaaadoor", sum := "d14c5167a9916e50f167bed17672c57b62184cde00a24befeb7976d3457753c6", func := "caucus/caucuslaw07.MailReads", spec := "mailReads", named := ["caucus/mail.kinds"], apart := false, laid := [("caucus/mail.kinds", laid_caucus_mail_kinds)], narrowed := true }
def MailReadsUptoSaid : Prop := mailReadsUptoRow.holds Tryd.pinned (OpenSpec.upto mailReadsSpec)

/-- 'caucuslaw07.MailCuts', WHERE WHAT IT READS IS OF BULK AT MOST 1048576: true; the input reads as it did. -/
def mailCutsUptoRow : OpenClaim := { program := "ytahajjfbkdocaaadoor", sum := "d14c5167a9916e50f167bed17672c57b62184cde00a24befeb7976d3457753c6", func := "caucus/caucuslaw07.MailCuts", spec := "mailCuts", named := ["caucus/mail.kinds"], apart := false, laid := [("caucus/mail.kinds", laid_caucus_mail_kinds)], narrowed := true }
def MailCutsUptoSaid : Prop := mailCutsUptoRow.holds Tryd.pinned (OpenSpec.upto mailCutsSpec)

end Rows
end Go.Proofs.YtahajjfbkdocaaaDoor
