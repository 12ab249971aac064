/- agiolaw23.SiteWaits: what the row asks of the program's form. -/
import Derived.Test.YtijhlbeipglieaaGreatProg
import Derived.Test.YtijhlbeipglieaaGreatRows
import Derived.JoinedOf
import Derived.KernelRfl
set_option linter.all false
namespace Go.Proofs.YtijhlbeipglieaaGreat
open Go.ChangeShapes Go.WideShapes
theorem siteWaits_facts:joinedFacts Tryz.pinned.checked.prog 4 Tryz.f4 Rows.siteWaitsSpec Rows.siteWaitsRow=true:=by kernel_rfl
end Go.Proofs.YtijhlbeipglieaaGreat
