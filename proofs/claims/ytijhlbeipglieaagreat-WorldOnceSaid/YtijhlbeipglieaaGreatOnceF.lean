/- agiolaw24.WorldOnce: what the row asks of the program's form. -/
import Derived.Test.YtijhlbeipglieaaGreatProg
import Derived.Test.YtijhlbeipglieaaGreatRows
import Derived.JoinedOf
import Derived.KernelRfl
set_option linter.all false
namespace Go.Proofs.YtijhlbeipglieaaGreat
open Go.ChangeShapes Go.WideShapes
theorem worldOnce_facts:joinedFacts Tryz.pinned.checked.prog 8 Tryz.f8 Rows.worldOnceSpec Rows.worldOnceRow=true:=by kernel_rfl
end Go.Proofs.YtijhlbeipglieaaGreat
