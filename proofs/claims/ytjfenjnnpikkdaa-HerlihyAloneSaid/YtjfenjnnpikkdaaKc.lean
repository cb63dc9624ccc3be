/-
  Package psim: goes, announce, load.
-/
import Derived.Test.YtjfenjnnpikkdaaWLast
import Derived.Laws.EntriesVeiled
import Derived.Outline
import Derived.Maps.AppendAt
import Derived.Test.YtjfenjnnpikkdaaKba
set_option linter.unusedVariables false
set_option linter.unusedSimpArgs false
namespace Go.Proofs.Ytjfenjnnpikkdaa
set_option maxRecDepth 100000
open Go.RowKit
open Go.Proofs.YtjfenjnnpikkdaaW.PrintLast

end Go.Proofs.Ytjfenjnnpikkdaa
/- Package psim: scan, finish, find. -/
namespace Go.Proofs.Ytjfenjnnpikkdaa
set_option maxRecDepth 100000
open Go.RowKit
open Go.Proofs.YtjfenjnnpikkdaaW.PrintLast

end Go.Proofs.Ytjfenjnnpikkdaa
/- Package psim: scan. -/
namespace Go.Proofs.Ytjfenjnnpikkdaa
set_option maxRecDepth 100000
open Go.RowKit
open Go.Proofs.YtjfenjnnpikkdaaW.PrintLast

end Go.Proofs.Ytjfenjnnpikkdaa
