/- Several texts in one. -/
import Derived.Test.YtahajjfbkdocaaaDoorZ27
import Derived.Test.YtahajjfbkdocaaaDoorZ28
import Derived.Test.YtahajjfbkdocaaaDoorZ2
import Derived.Deep.DeepHandedRow
/- Layer 7: what the row's list gives the walks; a world that bears the list. -/
namespace Go.Proofs.YtahajjfbkdocaaaDoor
open Go.ChangeShapes Go.WideShapes Go.ChangeAt Go.RowKit
set_option linter.unusedVariables false
theorem kindsG : Tryd.prog.globalNamed "caucus/mail.kinds" = some 0 := by kernel_rfl
theorem kindsT : (Tryd.prog.globals[0]?).map (·.type) = some 61 := by kernel_rfl
theorem kindsRow : (((begin Tryd.prog (fun _ _ => 0) default).world.heap[0]?).bind Obj.row?).isSome = true := by kernel_rfl
theorem kindsN : 0 < Tryd.prog.globals.size := of_decide_eq_true (by kernel_rfl)
def kindsL : List (Bool × Bool) := [(false, false), (true, false), (true, false), (true, false), (false, false), (true, false), (false, false), (true, true), (false, false)]
/-- The kinds, out of the list and the world's form. -/
theorem kinds0 {W : World} (h : laidMetH Tryd.prog [("caucus/mail.kinds", Rows.laid_caucus_mail_kinds)] W) (hs : W.ShapedOpen Tryd.prog) : ∃ t, W.heap[0]? = some (.cells KV t (0, 0)) := by
  obtain ⟨⟨z, t⟩, hz⟩ := Option.isSome_iff_exists.1 kindsRow
  obtain ⟨cs, hcs, _⟩ := hs.1 0 z t kindsN hz
  have hv := pairs_var (zs := kindsL) (rest := []) kindsG kindsT Tryd.underlying61 Tryd.underlying60 Tryd.underlying4 rfl rfl rfl rfl (by kernel_rfl) (by kernel_rfl) (by kernel_rfl) h
  refine ⟨t, ?_⟩
  have : W.var? Tryd.prog "caucus/mail.kinds" = some cs := by
    unfold World.var?
    rw [kindsG]
    simp only [Option.bind_some, hcs]
  rw [this] at hv
  rw [hcs, Option.some.inj hv]
  rfl
/-- A world for the witness: the settled one, the kinds laid. -/
noncomputable def laidWorld (os : Os) : World :=
  { World.holding Tryd.prog os ⟨#[], #[], []⟩ with heap := (World.holding Tryd.prog os ⟨#[], #[], []⟩).heap.modify 0 fun
      | .cells _ t frozen => .cells KV t frozen
      | o => o }
theorem laid_met (os : Os) (args : Array Value) : laidMet Tryd.prog [("caucus/mail.kinds", Rows.laid_caucus_mail_kinds)] ((laidWorld os).forCall (fun _ _ => 0) ⟨#[], args, []⟩).memory :=
  laidMet_of_run' 8 (by kernel_rfl) (by kernel_rfl)
end Go.Proofs.YtahajjfbkdocaaaDoor
