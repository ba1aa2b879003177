/- SpaceNext: the items that a replica begins, one behind the other, have numbers that rise by one, to the last that may be, and then there is none; for all numbers of replicas, all replicas, all rows. -/
import Derived.Test.YtpganpiidgkofaaY1
import Derived.Test.YtpganpiidgkofaaY40
namespace Go.Proofs.Ytpganpiidgkofaa.lawSpaceNext
open Go.ChangeShapes Go.WideShapes Go.ChangeAt Go.RowKit Go.WideMaps Go.WideElems
open Go.ChangeMaps (open_string)
set_option linter.unusedVariables false
set_option maxRecDepth 100000
theorem contract (H : Type) (enc : TypeId × Value → H) (W : World) (base : Nat) (args : Array Value) (ds gs : List (DataW H)) (before : List MemPlace)
    (hval : ∀ (j : Nat) t v, Try.f8.params[j]? = some t → args[j]? = some v → Value.okWide Try.prog W .any base t v)
    (hW : DataW.Whole enc Try.prog Try.f8.params.toList Rows.spaceNextSpec.vars false W args.toList ds gs before) :
    Calls Try.prog 8 args W fun e W' => ∃ v, e = .returned v ∧ Rows.spaceNextSpec.post enc Try.prog Try.f8 false true false false W args v W' := by
  have hW' := hW
  obtain ⟨p, q, hA0, hV, rfl, hfz, hnd⟩ := hW
  have hA : DataW.TrodAll enc Try.prog W 0 (fun _ => true) true Try.f8.params.toList args.toList ds p := hA0
  rw [Try.params8] at hA hval
  obtain ⟨v0, vs0, d0, ds0, p0, q0, hargs, rfl, rfl, h0, r0⟩ := trodAll_cons hA
  obtain ⟨v1, vs1, d1, ds1, p1, q1, rfl, rfl, rfl, h1, r1⟩ := trodAll_cons r0
  obtain ⟨v2, vs2, d2, ds2, p2, q2, rfl, rfl, rfl, h2, r2⟩ := trodAll_cons r1
  obtain ⟨rfl, rfl, rfl⟩ := trodAll_nil r2
  obtain rfl : args = #[v0, v1, v2] := by cases args; simp_all
  obtain ⟨n0, rfl, -, -, wn0⟩ := open_int Try.underlying3 (hval 0 3 v0 rfl rfl) h0
  have Bn0 := fits_of wn0
  obtain ⟨n1, rfl, -, -, wn1⟩ := open_int Try.underlying3 (hval 1 3 v1 rfl rfl) h1
  have Bn1 := fits_of wn1
  obtain ⟨n2, rfl, -, -, wn2⟩ := open_int Try.underlying3 (hval 2 3 v2 rfl rfl) h2
  have Bn2 := fits_of wn2
  refine (law_next n0 n1 n2 W Bn0 Bn1 Bn2).mono fun e W' ⟨he, hb⟩ => ⟨_, he, ?_⟩
  refine law_post laidOut hW' rfl (by kernel_rfl) rfl Try.underlying4 (fun ds hds => ?_) hb
  match ds, hds with
  | [_, _, _], _ => rfl
set_option maxRecDepth 100000 in
theorem lifted (os : Os) (started : os.Started) (H : Type) (enc : TypeId × Value → H) :
    ReturnsInHanded {} Try.checked os 8 .any (Rows.spaceNextSpec.pre6 enc Try.prog Try.f8 Rows.spaceNextRow.domain false) (Rows.spaceNextSpec.post enc Try.prog Try.f8 false true false false) := by
  refine returnsInHanded_of_change (C := Try.checked) own started (by kernel_rfl) Try.func8
    (ChangeSpec.witness6 (enc := enc) (C := Try.checked) false ⟨#[], #[.int .i64 0, .int .i64 0, .int .i64 0], []⟩ 8 (by kernel_rfl) (by kernel_rfl) (by kernel_rfl) (by kernel_rfl)) ?_
  intro W base args ds gs before hval hW _ _
  exact contract H enc W base args ds gs before hval hW
theorem over : Rows.spaceNextRow.holds Try.pinned (OpenSpec.ofChange Rows.spaceNextSpec) :=
  OpenClaim.holds_of_wide 8 Try.f8 rfl rfl rfl rfl rfl rfl rfl ⟨rfl, rfl, rfl, rfl, rfl⟩ rfl rfl rfl rfl rfl (by kernel_rfl) Try.func8 (by kernel_rfl)
    (of_decide_eq_true (by kernel_rfl)) (by unfold Func.isWrapper; rw [if_neg (of_decide_eq_false (by kernel_rfl))]; exact ⟨rfl, rfl⟩)
    (fun os started H enc _ => lifted os started H enc)
theorem proved : Rows.SpaceNextSaid := over
end Go.Proofs.Ytpganpiidgkofaa.lawSpaceNext
