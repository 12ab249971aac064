/- For WorldCalm. -/
import Derived.Test.YtijhlbeipglieaaGreatProg
import Derived.Test.YtijhlbeipglieaaGreatRows
import Derived.JoinedOf
import Derived.KernelRfl
set_option linter.all false
namespace Go.Proofs.YtijhlbeipglieaaGreat
open Go.ChangeShapes Go.WideShapes List
theorem yK:joinedFacts Tryz.pinned.checked.prog 9 Tryz.f9 Rows.worldCalmSpec Rows.worldCalmRow=true:=by kernel_rfl
