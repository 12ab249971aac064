/- agiolaw24.WorldOrder: what the row asks of the program's form. -/
import Derived.Test.YtijhlbeipglieaaGreatProg
import Derived.Test.YtijhlbeipglieaaGreatRows
import Derived.JoinedOf
import Derived.KernelRfl
set_option linter.all false
namespace Go.Proofs.YtijhlbeipglieaaGreat
open Go.ChangeShapes Go.WideShapes
theorem worldOrder_facts:joinedFacts Tryz.pinned.checked.prog 7 Tryz.f7 Rows.worldOrderSpec Rows.worldOrderRow=true:=by kernel_rfl
end Go.Proofs.YtijhlbeipglieaaGreat
