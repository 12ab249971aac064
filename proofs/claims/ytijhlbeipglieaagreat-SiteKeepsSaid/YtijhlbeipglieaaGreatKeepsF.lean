/- agiolaw23.SiteKeeps: what the row asks of the program's form. -/
import Derived.Test.YtijhlbeipglieaaGreatProg
import Derived.Test.YtijhlbeipglieaaGreatRows
import Derived.JoinedOf
import Derived.KernelRfl
set_option linter.all false
namespace Go.Proofs.YtijhlbeipglieaaGreat
open Go.ChangeShapes Go.WideShapes
theorem siteKeeps_facts:joinedFacts Tryz.pinned.checked.prog 3 Tryz.f3 Rows.siteKeepsSpec Rows.siteKeepsRow=true:=by kernel_rfl
end Go.Proofs.YtijhlbeipglieaaGreat
