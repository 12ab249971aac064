/- From the row's condition on errors.errorType to the walk's; a world that meets it. -/
import Derived.Test.YtmnoahglajilhaaDoorRowIn
import Derived.Test.YtmnoahglajilhaaDoorErrs3
import Derived.ChangeSame
import Derived.ChangeVars
import Derived.JoinedOf
import Derived.LaidLaws
import Derived.LaidHandle
import Derived.Stop.Joined
import Derived.ProofKit
import Derived.OpenShut
import Derived.ShutString
import Derived.ChangeOld
import Derived.SizedLaws
set_option linter.all false
namespace Go.Proofs.YtmnoahglajilhaaDoor
open Go.ChangeShapes Go.WideShapes Go.RowKit Agio

theorem etNamed : Tryd.prog.globalNamed "errors.errorType" = some 0 := by kernel_rfl
theorem rtCut : (Tryd.prog.cutTypes.find? (·.1 == "internal/reflectlite.rtype")).map (·.2) = some 184 := by kernel_rfl
theorem oneRow : ((List.range 232).filter fun t => Tryd.prog.rowNamed t [101, 114, 114, 111, 114]) = [27] := by kernel_rfl
theorem nTypes : Tryd.prog.types.size = 232 := by kernel_rfl
def laidList {H : Type} : List (String × DataW H) := [("errors.errorType", Rows.laid_errors_errorType)]

theorem good_of_laid {W : World} (h : laidMetH Tryd.prog [("errors.errorType", Rows.laid_errors_errorType)] W) : GoodG W := by
  have h' : laidMet Tryd.prog [] W ∧ handlesMet Tryd.prog [("errors.errorType", Rows.laid_errors_errorType)] W := h
  obtain ⟨name, u, ty, e1, e2, e3, e4, e5⟩ := h'.2 _ (List.mem_singleton.2 rfl)
  have en : name = [101, 114, 114, 111, 114] := (Option.some.inj e1).symm
  subst en
  obtain rfl := Option.some.inj (rtCut.symm.trans e2)
  have hm : ty ∈ (List.range 232).filter fun t => Tryd.prog.rowNamed t [101, 114, 114, 111, 114] := List.mem_filter.2 ⟨List.mem_range.2 (by rw [← nTypes]; exact e3), e4⟩
  rw [oneRow] at hm
  obtain rfl := List.mem_singleton.1 hm
  have hh : typeHandle Tryd.prog 27 = .pointer (some ⟨1, 27, none⟩) := by kernel_rfl
  rw [hh] at e5
  have := World.var?_cell etNamed e5 0
  unfold GoodG
  simpa using this

noncomputable def laidWorld (os : Os) : World :=
  let w0 := World.holding Tryd.prog os ⟨#[], #[], []⟩
  { w0 with heap := w0.heap.modify 0 fun
      | .cells _ t frozen => .cells #[.iface 184 (.agg #[.pointer (some ⟨1, 27, none⟩)])] t frozen
      | o => o }
theorem laidWorld_met (os : Os) (args : Array Value) : laidMetH Tryd.prog [("errors.errorType", Rows.laid_errors_errorType)] ((laidWorld os).forCall (fun _ _ => 0) ⟨#[], args, []⟩).memory :=
  laidMetH_of_parts (laidMet_nil _ _) (by kernel_rfl)
end Go.Proofs.YtmnoahglajilhaaDoor
