/- A site alone: no blocks but its own are barred. -/
import Derived.Test.YtijhlbeipglieaaGreatPkSiteM
namespace Go.Proofs.YtijhlbeipglieaaGreat
end Go.Proofs.YtijhlbeipglieaaGreat
