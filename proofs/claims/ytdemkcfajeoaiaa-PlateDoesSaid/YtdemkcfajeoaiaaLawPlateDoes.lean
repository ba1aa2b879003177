/- PlateDoes: in every script each answer, and all bytes, are what the document says, and a nil plate; for every script, each text of up to 2^47 bytes. -/
import Derived.Test.YtdemkcfajeoaiaaOPCall
import Derived.Test.YtdemkcfajeoaiaaLaw
import Derived.Test.YtdemkcfajeoaiaaPlateU
namespace Go.Proofs.Ytdemkcfajeoaiaa.lawPlateDoes
open Go.ChangeShapes Go.WideShapes Go.ChangeAt Go.RowKit Go.WideMaps Go.WideElems
open Go.ChangeMaps (open_string)
set_option linter.unusedVariables false
theorem contract (H : Type) (enc : TypeId × Value → H) (W : World) (base : Nat) (args : Array Value) (ds gs : List (DataW H)) (before : List MemPlace)
    (hval : ∀ (j : Nat) t v, Try.f6.params[j]? = some t → args[j]? = some v → Value.okWide Try.prog W .any base t v)
    (hW : DataW.Whole enc Try.prog Try.f6.params.toList Rows.plateDoesSpec.vars false W args.toList ds gs before)
    (hsz0 : (DataW.weightsEach Try.prog (Try.f6.params.toList ++ Rows.plateDoesSpec.plain.varTypes Try.prog) (ds ++ gs)).all (· ≤ reachBytes) = true) :
    Calls Try.prog 6 args W fun e W' => ∃ v, e = .returned v ∧ Rows.plateDoesSpec.post enc Try.prog Try.f6 false true false false W args v W' := by
  have hW' := hW
  obtain ⟨p, q, hA0, hV, rfl, hfz, hnd⟩ := hW
  have hA : DataW.TrodAll enc Try.prog W 0 (fun _ => true) true Try.f6.params.toList args.toList ds p := hA0
  have hsz := hsz0; clear hsz0
  rw [Try.params6] at hA hval hsz
  obtain ⟨v0, vs0, d0, ds0, p0, q0, hargs, rfl, rfl, h0, r0⟩ := trodAll_cons hA
  obtain ⟨rfl, rfl, rfl⟩ := trodAll_nil r0
  obtain rfl : args = #[v0] := by cases args; simp_all
  obtain ⟨A0, l0, c0, rfl, Br0, Bf0⟩ := open_rowsIn (V := PCV) (Fit := PCallFits) Try.underlying36 (by kernel_rfl) (fun fuel cs x h hw => trod_PCall h hw) (hval 0 36 v0 rfl rfl) h0 (sized_arg (j := 0) hsz rfl rfl)
  refine (law_does A0 c0 l0 W Br0 (fun x hx => by have := Bf0 x hx; exact ⟨this.text, this.n, this.spoil⟩)).mono fun e W' ⟨he, hb⟩ => ⟨_, he, ?_⟩
  refine law_post laidOut hW' rfl (by kernel_rfl) rfl Try.underlying4 (fun ds hds => ?_) hb
  match ds, hds with
  | [_], _ => rfl
set_option maxRecDepth 100000 in
theorem lifted (os : Os) (started : os.Started) (H : Type) (enc : TypeId × Value → H) :
    ReturnsInHanded {} Try.checked os 6 .any (Rows.plateDoesSpec.pre6 enc Try.prog Try.f6 Rows.plateDoesRow.domain false) (Rows.plateDoesSpec.post enc Try.prog Try.f6 false true false false) := by
  refine returnsInHanded_of_change_sized (C := Try.checked) own started (by kernel_rfl) Try.func6
    (ChangeSpec.witness6 (enc := enc) (C := Try.checked) false ⟨#[], #[.slice none 0 0], []⟩ 8 (by kernel_rfl) (by kernel_rfl) (by kernel_rfl) (by kernel_rfl)) ?_
  intro W base args ds gs before hval hW _ hsz _
  exact contract H enc W base args ds gs before hval hW hsz
theorem over : Rows.plateDoesRow.holds Try.pinned (OpenSpec.ofChange Rows.plateDoesSpec) :=
  OpenClaim.holds_of_wide 6 Try.f6 rfl rfl rfl rfl rfl rfl rfl ⟨rfl, rfl, rfl, rfl, rfl⟩ rfl rfl rfl rfl rfl (by kernel_rfl) Try.func6 (by kernel_rfl)
    (of_decide_eq_true (by kernel_rfl)) (by unfold Func.isWrapper; rw [if_neg (of_decide_eq_false (by kernel_rfl))]; exact ⟨rfl, rfl⟩)
    (fun os started H enc _ => lifted os started H enc)
theorem proved : Rows.PlateDoesSaid := over
end Go.Proofs.Ytdemkcfajeoaiaa.lawPlateDoes
