/- agiolaw24.WorldNobody: what the row asks of the program's form. -/
import Derived.Test.YtijhlbeipglieaaGreatProg
import Derived.Test.YtijhlbeipglieaaGreatRows
import Derived.JoinedOf
import Derived.KernelRfl
set_option linter.all false
namespace Go.Proofs.YtijhlbeipglieaaGreat
open Go.ChangeShapes Go.WideShapes
theorem worldNobody_facts:joinedFacts Tryz.pinned.checked.prog 13 Tryz.f13 Rows.worldNobodySpec Rows.worldNobodyRow=true:=by kernel_rfl
end Go.Proofs.YtijhlbeipglieaaGreat
