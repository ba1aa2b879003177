/- Several texts in one. -/
import Derived.Test.YtpganpiidgkofaaZ40
import Derived.Test.YtpganpiidgkofaaZ42
/- Layer 9: what comes in as a script: the numbers. -/
namespace Go.Proofs.Ytpganpiidgkofaa
open Go.RowKit
set_option linter.unusedVariables false
theorem fitK_of {l : List LCall} (h : ∀ x ∈ l, LCallFits x) : ∀ x ∈ l, Fits x.keep ∧ 0 ≤ x.spoil ∧ x.spoil ≤ 255 := fun x hx => ⟨(h x hx).keep, (h x hx).spoil⟩
end Go.Proofs.Ytpganpiidgkofaa
