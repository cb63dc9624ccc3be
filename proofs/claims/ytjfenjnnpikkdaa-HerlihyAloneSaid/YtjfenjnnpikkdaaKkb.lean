/-
  The chapter's example.
-/
import Derived.Test.YtjfenjnnpikkdaaKad
import Derived.Test.YtjfenjnnpikkdaaKh
import Derived.Test.YtjfenjnnpikkdaaKk
set_option linter.unusedVariables false
set_option linter.unusedSimpArgs false
namespace Go.Proofs.Ytjfenjnnpikkdaa
open Go.RowKit
theorem he_up (w : World) : Calls Try.prog 26 #[] w (Tells w true) :=
  he_awake (heIf 2 awkS (by decide)) (heSolo 2 awkS) (by decide) rfl (he_zero 2 awkS (by decide)) (fun w vl hx => he_start awkS hx (by decide) 2 (by decide +kernel) (by decide) (by decide)) w
end Go.Proofs.Ytjfenjnnpikkdaa
