/- DepsBytes: the bytes of a call are what the document says, and are read again; what is got from any bytes has just those; for every call and every text behind, each text of up to 2^47 bytes. -/
import Derived.Test.YtnjnafmonijlnaaOCall
import Derived.Test.YtnjnafmonijlnaaCallM
namespace Go.Proofs.Ytnjnafmonijlnaa.lawDepsBytes
open Go.ChangeShapes Go.WideShapes Go.ChangeAt Go.RowKit Go.WideMaps Go.WideElems
open Go.ChangeMaps (open_string)
set_option linter.unusedVariables false
theorem contract (H : Type) (enc : TypeId × Value → H) (W : World) (base : Nat) (args : Array Value) (ds gs : List (DataW H)) (before : List MemPlace)
    (hval : ∀ (j : Nat) t v, Try.f14.params[j]? = some t → args[j]? = some v → Value.okWide Try.prog W .any base t v)
    (hW : DataW.Whole enc Try.prog Try.f14.params.toList Rows.depsBytesSpec.vars false W args.toList ds gs before)
    (hsz0 : (DataW.weightsEach Try.prog (Try.f14.params.toList ++ Rows.depsBytesSpec.plain.varTypes Try.prog) (ds ++ gs)).all (· ≤ reachBytes) = true) :
    Calls Try.prog 14 args W fun e W' => ∃ v, e = .returned v ∧ Rows.depsBytesSpec.post enc Try.prog Try.f14 false true false false W args v W' := by
  have hW' := hW
  obtain ⟨p, q, hA0, hV, rfl, hfz, hnd⟩ := hW
  have hA : DataW.TrodAll enc Try.prog W 0 (fun _ => true) true Try.f14.params.toList args.toList ds p := hA0
  have hsz := hsz0; clear hsz0
  rw [Try.params14] at hA hval hsz
  obtain ⟨v0, vs0, d0, ds0, p0, q0, hargs, rfl, rfl, h0, r0⟩ := trodAll_cons hA
  obtain ⟨v1, vs1, d1, ds1, p1, q1, rfl, rfl, rfl, h1, r1⟩ := trodAll_cons r0
  obtain ⟨rfl, rfl, rfl⟩ := trodAll_nil r1
  obtain rfl : args = #[v0, v1] := by cases args; simp_all
  obtain ⟨c0, rfl, Bc0⟩ := open_Call (hval 0 60 v0 rfl rfl) h0 (sized_arg (j := 0) hsz rfl rfl)
  obtain ⟨s1, rfl, Bs1⟩ := open_str Try.underlying9 (hval 1 9 v1 rfl rfl) h1 (sized_arg (j := 1) hsz rfl rfl)
  refine (law_cbytes c0 s1 Bc0 Bs1 W).mono fun e W' ⟨he, hb⟩ => ⟨_, he, ?_⟩
  refine law_post laidOut hW' rfl (by kernel_rfl) rfl Try.underlying4 (fun ds hds => ?_) hb
  match ds, hds with
  | [_, _], _ => rfl
set_option maxRecDepth 100000 in
theorem lifted (os : Os) (started : os.Started) (H : Type) (enc : TypeId × Value → H) :
    ReturnsInHanded {} Try.checked os 14 .any (Rows.depsBytesSpec.pre6 enc Try.prog Try.f14 Rows.depsBytesRow.domain false) (Rows.depsBytesSpec.post enc Try.prog Try.f14 false true false false) := by
  refine returnsInHanded_of_change_sized (C := Try.checked) own started (by kernel_rfl) Try.func14
    (ChangeSpec.witness6 (enc := enc) (C := Try.checked) false ⟨#[], #[.agg #[.int .i64 0, .string ByteArray.empty, .string ByteArray.empty, .int .i64 0, .int .i64 0, .int .i64 0, .int .i64 0, .int .i64 0, .int .i64 0, .int .i64 0, .int .i64 0, .int .i64 0, .int .i64 0, .int .i64 0], .string ByteArray.empty], []⟩ 8 (by kernel_rfl) (by kernel_rfl) (by kernel_rfl) (by kernel_rfl)) ?_
  intro W base args ds gs before hval hW _ hsz _
  exact contract H enc W base args ds gs before hval hW hsz
theorem over : Rows.depsBytesRow.holds Try.pinned (OpenSpec.ofChange Rows.depsBytesSpec) :=
  OpenClaim.holds_of_wide 14 Try.f14 rfl rfl rfl rfl rfl rfl rfl ⟨rfl, rfl, rfl, rfl, rfl⟩ rfl rfl rfl rfl rfl (by kernel_rfl) Try.func14 (by kernel_rfl)
    (of_decide_eq_true (by kernel_rfl)) (by unfold Func.isWrapper; rw [if_neg (of_decide_eq_false (by kernel_rfl))]; exact ⟨rfl, rfl⟩)
    (fun os started H enc _ => lifted os started H enc)
theorem proved : Rows.DepsBytesSaid := over
end Go.Proofs.Ytnjnafmonijlnaa.lawDepsBytes
