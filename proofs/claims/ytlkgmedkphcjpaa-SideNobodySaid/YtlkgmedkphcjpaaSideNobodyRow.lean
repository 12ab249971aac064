/-
  agiolaw20.SideNobody: for every order the law returns true: a side that is nil has nothing.
-/
import Derived.Test.YtlkgmedkphcjpaaRowIn
import Derived.Test.YtlkgmedkphcjpaaOrdIn
import Derived.Test.YtlkgmedkphcjpaaSideE
namespace Go.Proofs.Ytlkgmedkphcjpaa
open Go.ChangeShapes Go.WideShapes Go.RowKit Agio

set_option maxRecDepth 100000 in
set_option maxHeartbeats 1000000 in
theorem sideNobody_lifted (os : Os) (started : os.Started) (H : Type) (enc : TypeId × Value → H) :
    ReturnsInHanded {} Try.checked os 9 .any (Rows.sideNobodySpec.pre6 enc Try.prog Try.f9 Rows.sideNobodyRow.domain false)
      (Rows.sideNobodySpec.post enc Try.prog Try.f9 false true false false) := by
  refine returnsInHanded_of_change_shaped (C := Try.checked) own started (by kernel_rfl) Try.func9
    (ChangeSpec.witness6 (enc := enc) (C := Try.checked) false ⟨#[], #[.agg #[.int .i64 0, .int .i64 0, .int .i64 0, .int .i64 0, .int .i64 0, .bool false, .int .i64 0]], []⟩ 8 (by kernel_rfl) (by kernel_rfl) (by kernel_rfl) (by kernel_rfl)) ?_
  intro W base args ds gs before hval0 hW _ hsz0 _ _
  have hsz : (DataW.weightsEach Try.prog (Try.f9.params.toList ++ Rows.sideNobodySpec.plain.varTypes Try.prog) (ds ++ gs)).all (· ≤ reachBytes) = true := hsz0
  have hval : ∀ (j : Nat) t v, Try.f9.params[j]? = some t → args[j]? = some v → Value.okWide Try.prog W .any base t v := hval0
  have hW' := hW
  obtain ⟨p, q, hA0, hV0, rfl, hfz, hnd⟩ := hW
  have hA : DataW.TrodAll enc Try.prog W 0 (fun _ => true) true Try.f9.params.toList args.toList ds p := hA0
  rw [Try.params9] at hA hval hsz
  obtain ⟨v0, vs0, d0, ds0, p0, q0, hargs, rfl, rfl, h0, r0⟩ := trodAll_cons hA
  obtain ⟨rfl, rfl, rfl⟩ := trodAll_nil r0
  obtain rfl : args = #[v0] := by cases args; simp_all
  obtain ⟨rfl, rfl⟩ := trodVars_none hV0
  have k0 := h0
  have lt0 : ∀ x ∈ p0, x.block < W.heap.size := by obtain ⟨m, hm⟩ := k0; exact DataW.trod_lt m _ _ _ hm
  obtain ⟨x0, hx0, hr0⟩ : ∃ x : Ord, v0 = x.val ∧ OrdWf x := by
    obtain ⟨cs, hcs, -⟩ := okWide_struct Try.underlying54 (hval 0 54 v0 rfl rfl)
    subst hcs
    exact ord_in h0
  subst hx0
  refine (sideNobody_any W x0).mono fun e W' ⟨he, hu⟩ => ?_
  have bel := hu.below (B := W.heap.size) (Nat.le_refl _) (by simp)
  subst he
  exact ⟨_, rfl, _, _, _, [], _, [], hW', trodAll_mk1 (shut_bool Try.underlying4 _), (trodAll_cons_mk (Below.trod laidOut (by kernel_rfl) (of_decide_eq_true (by kernel_rfl)) k0 bel lt0) trodAll_mk0), rfl, bel.frame _, fun h => by cases h⟩

theorem sideNobody_row : Rows.SideNobodySaid :=
  OpenClaim.holds_of_wide 9 Try.f9 rfl rfl rfl rfl rfl rfl rfl ⟨rfl, rfl, rfl, rfl, rfl⟩ rfl rfl rfl rfl rfl (by kernel_rfl) Try.func9 (by kernel_rfl)
    (of_decide_eq_true (by kernel_rfl)) (by unfold Func.isWrapper; rw [if_neg (of_decide_eq_false (by kernel_rfl))]; exact ⟨rfl, rfl⟩)
    (fun os started H enc _ => sideNobody_lifted os started H enc)

theorem sideNobody_holds : Rows.SideNobodySaid := sideNobody_row
#print axioms sideNobody_holds
end Go.Proofs.Ytlkgmedkphcjpaa
