/- For SitePlays. -/
import Derived.Test.YtijhlbeipglieaaGreatProg
import Derived.Test.YtijhlbeipglieaaGreatRows
import Derived.JoinedOf
import Derived.KernelRfl
set_option linter.all false
namespace Go.Proofs.YtijhlbeipglieaaGreat
open Go.ChangeShapes Go.WideShapes List
theorem Ea:joinedFacts Tryz.pinned.checked.prog 5 Tryz.f5 Rows.sitePlaysSpec Rows.sitePlaysRow=true:=by kernel_rfl
