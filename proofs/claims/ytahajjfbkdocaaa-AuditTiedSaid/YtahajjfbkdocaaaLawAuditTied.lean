/- AuditTied: two committed calls of unlike items that clash are found, if neither waits for the other one, and not, if one does; for every number, all items and calls, each text of up to 2^47 bytes. -/
import Derived.Test.YtahajjfbkdocaaaOItem
import Derived.Test.YtahajjfbkdocaaaOCall
import Derived.Test.YtahajjfbkdocaaaAudS
namespace Go.Proofs.Ytahajjfbkdocaaa.lawAuditTied
open Go.ChangeShapes Go.WideShapes Go.ChangeAt Go.RowKit Go.WideMaps Go.WideElems
open Go.ChangeMaps (open_string)
set_option linter.unusedVariables false
theorem contract (H : Type) (enc : TypeId × Value → H) (W : World) (base : Nat) (args : Array Value) (ds gs : List (DataW H)) (before : List MemPlace)
    (hval : ∀ (j : Nat) t v, Try.f4.params[j]? = some t → args[j]? = some v → Value.okWide Try.prog W .any base t v)
    (hW : DataW.Whole enc Try.prog Try.f4.params.toList Rows.auditTiedSpec.vars false W args.toList ds gs before)
    (hsz0 : (DataW.weightsEach Try.prog (Try.f4.params.toList ++ Rows.auditTiedSpec.plain.varTypes Try.prog) (ds ++ gs)).all (· ≤ reachBytes) = true) :
    Calls Try.prog 4 args W fun e W' => ∃ v, e = .returned v ∧ Rows.auditTiedSpec.post enc Try.prog Try.f4 false true false false W args v W' := by
  have hW' := hW
  obtain ⟨p, q, hA0, hV, rfl, hfz, hnd⟩ := hW
  have hA : DataW.TrodAll enc Try.prog W 0 (fun _ => true) true Try.f4.params.toList args.toList ds p := hA0
  have hsz := hsz0; clear hsz0
  rw [Try.params4] at hA hval hsz
  obtain ⟨v0, vs0, d0, ds0, p0, q0, hargs, rfl, rfl, h0, r0⟩ := trodAll_cons hA
  obtain ⟨v1, vs1, d1, ds1, p1, q1, rfl, rfl, rfl, h1, r1⟩ := trodAll_cons r0
  obtain ⟨v2, vs2, d2, ds2, p2, q2, rfl, rfl, rfl, h2, r2⟩ := trodAll_cons r1
  obtain ⟨v3, vs3, d3, ds3, p3, q3, rfl, rfl, rfl, h3, r3⟩ := trodAll_cons r2
  obtain ⟨v4, vs4, d4, ds4, p4, q4, rfl, rfl, rfl, h4, r4⟩ := trodAll_cons r3
  obtain ⟨rfl, rfl, rfl⟩ := trodAll_nil r4
  obtain rfl : args = #[v0, v1, v2, v3, v4] := by cases args; simp_all
  obtain ⟨n0, rfl, -, -, wn0⟩ := open_int Try.underlying3 (hval 0 3 v0 rfl rfl) h0
  have Bn0 := fits_of wn0
  obtain ⟨x1, rfl, Bx1⟩ := open_Item (hval 1 28 v1 rfl rfl) h1
  obtain ⟨x2, rfl, Bx2⟩ := open_Item (hval 2 28 v2 rfl rfl) h2
  obtain ⟨c3, rfl, Bc3⟩ := open_Call (hval 3 36 v3 rfl rfl) h3 (sized_arg (j := 3) hsz rfl rfl)
  obtain ⟨c4, rfl, Bc4⟩ := open_Call (hval 4 36 v4 rfl rfl) h4 (sized_arg (j := 4) hsz rfl rfl)
  refine (law_tied n0 x1 x2 c3 c4 W Bn0 ⟨Bx1.rep, Bx1.num⟩ ⟨Bx2.rep, Bx2.num⟩ ⟨Bc3.deed.key, Bc3.deed.val⟩ ⟨Bc4.deed.key, Bc4.deed.val⟩).mono fun e W' ⟨he, hb⟩ => ⟨_, he, ?_⟩
  refine law_post laidOut hW' rfl (by kernel_rfl) rfl Try.underlying4 (fun ds hds => ?_) hb
  match ds, hds with
  | [_, _, _, _, _], _ => rfl
set_option maxRecDepth 100000 in
theorem lifted (os : Os) (started : os.Started) (H : Type) (enc : TypeId × Value → H) :
    ReturnsInHanded {} Try.checked os 4 .any (Rows.auditTiedSpec.pre6 enc Try.prog Try.f4 Rows.auditTiedRow.domain false) (Rows.auditTiedSpec.post enc Try.prog Try.f4 false true false false) := by
  refine returnsInHanded_of_change_sized (C := Try.checked) own started (by kernel_rfl) Try.func4
    (ChangeSpec.witness6 (enc := enc) (C := Try.checked) false ⟨#[], #[.int .i64 0, .agg #[.int .i64 0, .int .i64 0], .agg #[.int .i64 0, .int .i64 0], .agg #[.int .i64 0, .string ByteArray.empty, .string ByteArray.empty, .int .i64 0, .int .i64 0, .int .i64 0, .int .i64 0, .int .i64 0, .int .i64 0, .int .i64 0, .int .i64 0, .int .i64 0, .int .i64 0, .int .i64 0], .agg #[.int .i64 0, .string ByteArray.empty, .string ByteArray.empty, .int .i64 0, .int .i64 0, .int .i64 0, .int .i64 0, .int .i64 0, .int .i64 0, .int .i64 0, .int .i64 0, .int .i64 0, .int .i64 0, .int .i64 0]], []⟩ 8 (by kernel_rfl) (by kernel_rfl) (by kernel_rfl) (by kernel_rfl)) ?_
  intro W base args ds gs before hval hW _ hsz _
  exact contract H enc W base args ds gs before hval hW hsz
theorem over : Rows.auditTiedRow.holds Try.pinned (OpenSpec.ofChange Rows.auditTiedSpec) :=
  OpenClaim.holds_of_wide 4 Try.f4 rfl rfl rfl rfl rfl rfl rfl ⟨rfl, rfl, rfl, rfl, rfl⟩ rfl rfl rfl rfl rfl (by kernel_rfl) Try.func4 (by kernel_rfl)
    (of_decide_eq_true (by kernel_rfl)) (by unfold Func.isWrapper; rw [if_neg (of_decide_eq_false (by kernel_rfl))]; exact ⟨rfl, rfl⟩)
    (fun os started H enc _ => lifted os started H enc)
theorem proved : Rows.AuditTiedSaid := over
end Go.Proofs.Ytahajjfbkdocaaa.lawAuditTied
