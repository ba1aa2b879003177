/-
  No cell of these rows narrows 'for every input' (looked for: loops, veiled, ifaces, maps, wideKeys, modest, calm, conditions, laid).
  DERIVED. THE GIVEN ROWS OF THIS SEAT. 3 by the template 'for every input the law returns true; each argument reads behind the call as it read before'; 0 by the template 'total and deterministic' (their statements: YtahajjfbkdocaaaTotals.lean).
  GIVEN WITH THE SEED: the statements are not yours to turn. If you find one false, say at which input.
  Laid BY PROGRAM, IN A SANDBOX (cutbox-rows.mjs): the forced cells as the released guide's own fill.sh prints them over the translation 095812b8802d344e… (all of the seat's roots in one cut). By AI agents, Wed Nov 11 2026. No macro, syntax, notation, axiom, sorry.
-/
import Derived.Test.YtahajjfbkdocaaaChecked
import GoSem.Claim
import GoSem.ClaimJoined
import GoSem.ClaimMapViews
import Derived.JoinedTies
import Derived.KernelRfl
namespace Go.Proofs.Ytahajjfbkdocaaa
/- THE CELL 'sum', in the pinned program and in every row, IS THE sha256 OF THE DUMP (.gsa) THAT YtahajjfbkdocaaaProg.lean LOADS. Nothing in Lean hashes anything: it is a label: what it is worth is what the hold of that sum in a sandbox is worth. -/
noncomputable def Try.pinned : Pinned := { name := "ytahajjfbkdocaaa", sum := "095812b8802d344e7f7009f23a607a9b274c70ee53ee5f9083cb8ad31af4d5cc", checked := Try.checked }
namespace Rows
def none {H : Type} : Left H := { results := [], args := [] }

/-- 'caucuslaw24.AuditLooks': WHATEVER THE INPUT: true; the input reads as it did. -/
def auditLooksSpec : ChangeSpec := { name := "auditLooks", fn := fun _ => fun
  | [d1, d2] => { results := [.lit (.bool true)], args := [d1, d2] }
  | _ => none }
def auditLooksRow : OpenClaim := { program := "ytahajjfbkdocaaa", sum := "095812b8802d344e7f7009f23a607a9b274c70ee53ee5f9083cb8ad31af4d5cc", func := "caucus/caucuslaw24.AuditLooks", spec := "auditLooks", plainKeys := false, apart := false }
def AuditLooksSaid : Prop := auditLooksRow.holds Try.pinned (OpenSpec.ofChange auditLooksSpec)

/-- ITS FALSE NEIGHBOUR: 'it returns false'. Refute it at one input. -/
def auditLooksWrong : ChangeSpec := { name := "auditLooks", fn := fun _ => fun
  | [d1, d2] => { results := [.lit (.bool false)], args := [d1, d2] }
  | _ => none }
def AuditLooksWrongFalsely : Prop := auditLooksRow.holds Try.pinned (OpenSpec.ofChange auditLooksWrong)

/-- 'caucuslaw24.AuditTied': WHATEVER THE INPUT: true; the input reads as it did. -/
def auditTiedSpec : ChangeSpec := { name := "auditTied", fn := fun _ => fun
  | [d1, d2, d3, d4, d5] => { results := [.lit (.bool true)], args := [d1, d2, d3, d4, d5] }
  | _ => none }
def auditTiedRow : OpenClaim := { program := "ytahajjfbkdocaaa", sum := "095812b8802d344e7f7009f23a607a9b274c70ee53ee5f9083cb8ad31af4d5cc", func := "caucus/caucuslaw24.AuditTied", spec := "auditTied", plainKeys := false, apart := false }
def AuditTiedSaid : Prop := auditTiedRow.holds Try.pinned (OpenSpec.ofChange auditTiedSpec)

/-- ITS FALSE NEIGHBOUR: 'it returns false'. Refute it at one input. -/
def auditTiedWrong : ChangeSpec := { name := "auditTied", fn := fun _ => fun
  | [d1, d2, d3, d4, d5] => { results := [.lit (.bool false)], args := [d1, d2, d3, d4, d5] }
  | _ => none }
def AuditTiedWrongFalsely : Prop := auditTiedRow.holds Try.pinned (OpenSpec.ofChange auditTiedWrong)

/-- 'caucuslaw24.AuditAgain': WHATEVER THE INPUT: true; the input reads as it did. -/
def auditAgainSpec : ChangeSpec := { name := "auditAgain", fn := fun _ => fun
  | [d1, d2] => { results := [.lit (.bool true)], args := [d1, d2] }
  | _ => none }
def auditAgainRow : OpenClaim := { program := "ytahajjfbkdocaaa", sum := "095812b8802d344e7f7009f23a607a9b274c70ee53ee5f9083cb8ad31af4d5cc", func := "caucus/caucuslaw24.AuditAgain", spec := "auditAgain", plainKeys := false, apart := false }
def AuditAgainSaid : Prop := auditAgainRow.holds Try.pinned (OpenSpec.ofChange auditAgainSpec)

/-- ITS FALSE NEIGHBOUR: 'it returns false'. Refute it at one input. -/
def auditAgainWrong : ChangeSpec := { name := "auditAgain", fn := fun _ => fun
  | [d1, d2] => { results := [.lit (.bool false)], args := [d1, d2] }
  | _ => none }
def AuditAgainWrongFalsely : Prop := auditAgainRow.holds Try.pinned (OpenSpec.ofChange auditAgainWrong)

/- THE SECOND FORM. 'bulk': how many values and letters a reading holds, each counted each time it is reached (what is shared counts as often as it is met; a slice's spare places count too). A statement '..UptoSaid' is the law's where the arguments, and the package variables that the reading takes, are together of bulk at most 1048576: NARROWER than '..Said'. Prove '..Said' where nothing that the law and all that it calls make is longer than what came in: it says more and counts as full. Else prove '..UptoSaid'. A law counts once. -/
mutual
def uptoBulk {H : Type} : DataW H → Nat
  | .lit (.string bytes) => bytes.length + 1
  | .lit _ => 1
  | .nil => 1
  | .ptr d => uptoBulk d + 1
  | .slice elems spare => uptoBulkAll elems + uptoBulkAll spare + 1
  | .agg parts => uptoBulkAll parts + 1
  | .iface _ d => uptoBulk d + 1
  | .map entries => uptoBulkEntries entries + 1
  | .held _ => 1
def uptoBulkAll {H : Type} : List (DataW H) → Nat
  | [] => 0
  | d :: r => uptoBulk d + uptoBulkAll r
def uptoBulkEntries {H : Type} : List (Lit × DataW H) → Nat
  | [] => 0
  | x :: r => uptoBulkEntry x + uptoBulkEntries r
def uptoBulkEntry {H : Type} : Lit × DataW H → Nat
  | (.string bytes, d) => bytes.length + uptoBulk d + 1
  | (_, d) => uptoBulk d + 1
 end
def uptoSmall : (H : Type) → List (DataW H) → Bool := fun _ ds => decide (uptoBulkAll ds ≤ 1048576)
def OpenSpec.upto (s : _root_.Go.ChangeSpec) : _root_.Go.OpenSpec := { _root_.Go.OpenSpec.ofChange s with cond := some uptoSmall }

/-- 'caucuslaw24.AuditLooks', WHERE WHAT IT READS IS OF BULK AT MOST 1048576: true; the input reads as it did. -/
def auditLooksUptoRow : OpenClaim := { program := "ytahajjfbkdocaaa", sum := "095812b8802d344e7f7009f23a607a9b274c70ee53ee5f9083cb8ad31af4d5cc", func := "caucus/caucuslaw24.AuditLooks", spec := "auditLooks", plainKeys := false, apart := false, narrowed := true }
def AuditLooksUptoSaid : Prop := auditLooksUptoRow.holds Try.pinned (OpenSpec.upto auditLooksSpec)

/-- 'caucuslaw24.AuditTied', WHERE WHAT IT READS IS OF BULK AT MOST 1048576: true; the input reads as it did. -/
def auditTiedUptoRow : OpenClaim := { program := "ytahajjfbkdocaaa", sum := "095812b8802d344e7f7009f23a607a9b274c70ee53ee5f9083cb8ad31af4d5cc", func := "caucus/caucuslaw24.AuditTied", spec := "auditTied", plainKeys := false, apart := false, narrowed := true }
def AuditTiedUptoSaid : Prop := auditTiedUptoRow.holds Try.pinned (OpenSpec.upto auditTiedSpec)

/-- 'caucuslaw24.AuditAgain', WHERE WHAT IT READS IS OF BULK AT MOST 1048576: true; the input reads as it did. -/
def auditAgainUptoRow : OpenClaim := { program := "ytahajjfbkdocaaa", sum := "095812b8802d344e7f7009f23a607a9b274c70ee53ee5f9083cb8ad31af4d5cc", func := "caucus/caucuslaw24.AuditAgain", spec := "auditAgain", plainKeys := false, apart := false, narrowed := true }
def AuditAgainUptoSaid : Prop := auditAgainUptoRow.holds Try.pinned (OpenSpec.upto auditAgainSpec)

end Rows
end Go.Proofs.Ytahajjfbkdocaaa
