/- agiolaw24.WorldKeeps: what the row asks of the program's form. -/
import Derived.Test.YtijhlbeipglieaaGreatProg
import Derived.Test.YtijhlbeipglieaaGreatRows
import Derived.JoinedOf
import Derived.KernelRfl
set_option linter.all false
namespace Go.Proofs.YtijhlbeipglieaaGreat
open Go.ChangeShapes Go.WideShapes
theorem worldKeeps_facts:joinedFacts Tryz.pinned.checked.prog 10 Tryz.f10 Rows.worldKeepsSpec Rows.worldKeepsRow=true:=by kernel_rfl
end Go.Proofs.YtijhlbeipglieaaGreat
