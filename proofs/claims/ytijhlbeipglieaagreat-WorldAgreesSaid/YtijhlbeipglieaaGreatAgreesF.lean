/- agiolaw24.WorldAgrees: what the row asks of the program's form. -/
import Derived.Test.YtijhlbeipglieaaGreatProg
import Derived.Test.YtijhlbeipglieaaGreatRows
import Derived.JoinedOf
import Derived.KernelRfl
set_option linter.all false
namespace Go.Proofs.YtijhlbeipglieaaGreat
open Go.ChangeShapes Go.WideShapes
theorem worldAgrees_facts:joinedFacts Tryz.pinned.checked.prog 11 Tryz.f11 Rows.worldAgreesSpec Rows.worldAgreesRow=true:=by kernel_rfl
end Go.Proofs.YtijhlbeipglieaaGreat
