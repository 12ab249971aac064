/-
  agiolaw23.SiteDecides: for both numbers, all bytes and all votes the law returns true: with most of the sites accepting, a site decides, and each other one is told.
-/
import Derived.Test.YtijhlbeipglieaaPkIn
import Derived.Test.YtijhlbeipglieaaPkSiteD
namespace Go.Proofs.Ytijhlbeipglieaa
open Go.ChangeShapes Go.WideShapes Go.RowKit Agio

set_option maxRecDepth 100000 in
set_option maxHeartbeats 1000000 in
theorem siteDecides_lifted (os : Os) (started : os.Started) (H : Type) (enc : TypeId × Value → H) :
    ReturnsInHanded {} Try.checked os 3 .any (Rows.siteDecidesSpec.pre6 enc Try.prog Try.f3 Rows.siteDecidesRow.domain false)
      (Rows.siteDecidesSpec.post enc Try.prog Try.f3 false true false false) := by
  refine returnsInHanded_of_change_shaped (C := Try.checked) own started (by kernel_rfl) Try.func3
    (ChangeSpec.witness6 (enc := enc) (C := Try.checked) false ⟨#[], #[.agg #[.int .u8 0, .int .u8 0], .slice none 0 0, .slice none 0 0], []⟩ 8 (by kernel_rfl) (by kernel_rfl) (by kernel_rfl) (by kernel_rfl)) ?_
  intro W base args ds gs before hval0 hW _ hsz0 _ _
  have hsz : (DataW.weightsEach Try.prog (Try.f3.params.toList ++ Rows.siteDecidesSpec.plain.varTypes Try.prog) (ds ++ gs)).all (· ≤ reachBytes) = true := hsz0
  have hval : ∀ (j : Nat) t v, Try.f3.params[j]? = some t → args[j]? = some v → Value.okWide Try.prog W .any base t v := hval0
  have hW' := hW
  obtain ⟨p, q, hA0, hV0, rfl, hfz, hnd⟩ := hW
  have hA : DataW.TrodAll enc Try.prog W 0 (fun _ => true) true Try.f3.params.toList args.toList ds p := hA0
  rw [Try.params3] at hA hval hsz
  obtain ⟨v0, vs0, d0, ds0, p0, q0, hargs, rfl, rfl, h0, r0⟩ := trodAll_cons hA
  obtain ⟨v1, vs1, d1, ds1, p1, q1, rfl, rfl, rfl, h1, r1⟩ := trodAll_cons r0
  obtain ⟨v2, vs2, d2, ds2, p2, q2, rfl, rfl, rfl, h2, r2⟩ := trodAll_cons r1
  obtain ⟨rfl, rfl, rfl⟩ := trodAll_nil r2
  obtain rfl : args = #[v0, v1, v2] := by cases args; simp_all
  obtain ⟨rfl, rfl⟩ := trodVars_none hV0
  have k0 := h0
  have lt0 : ∀ x ∈ p0, x.block < W.heap.size := by obtain ⟨m, hm⟩ := k0; exact DataW.trod_lt m _ _ _ hm
  obtain ⟨a0, b0, hx0, ha0, hb0⟩ : ∃ a b : Nat, v0 = .agg #[.int .u8 (a : Int), .int .u8 (b : Int)] ∧ a < 256 ∧ b < 256 := by
    obtain ⟨l, hl, hn, hw⟩ := arr_in (n := 2) ⟨Try.underlying22, by kernel_rfl, by kernel_rfl, by kernel_rfl⟩ Try.underlying5 (hval 0 22 v0 rfl rfl) h0
    match l, hn with
    | [x, y], _ =>
      have h1 := bounds_u8 (hw x (by simp))
      have h2 := bounds_u8 (hw y (by simp))
      refine ⟨x.toNat, y.toNat, ?_, by omega, by omega⟩
      rw [hl, show ((x.toNat : Nat) : Int) = x by omega, show ((y.toNat : Nat) : Int) = y by omega]
      rfl
  subst hx0
  have k1 := h1
  have lt1 : ∀ x ∈ p1, x.block < W.heap.size := by obtain ⟨m, hm⟩ := k1; exact DataW.trod_lt m _ _ _ hm
  obtain ⟨a1, len1, cap1, rfl⟩ := okWide_slice Try.underlying23 (hval 1 23 v1 rfl rfl)
  obtain ⟨b1, hrd1, hlc1, hcm1, hnone1, hd1⟩ := bytes_in h1
  have hb1 : b1.length ≤ 140737488351232 := by
    rcases hd1 with ⟨_, rfl⟩ | ⟨sp, rfl⟩
    · simp
    · have := sized_slice hsz (j := 1) (t := 23) (e := 5) rfl rfl Try.underlying23
      rw [show Try.prog.bytesOf 5 = 1 by kernel_rfl] at this
      simp only [List.length_map, reachBytes] at this
      omega
  have k2 := h2
  have lt2 : ∀ x ∈ p2, x.block < W.heap.size := by obtain ⟨m, hm⟩ := k2; exact DataW.trod_lt m _ _ _ hm
  obtain ⟨a2, len2, cap2, rfl⟩ := okWide_slice Try.underlying23 (hval 2 23 v2 rfl rfl)
  obtain ⟨b2, hrd2, hlc2, hcm2, hnone2, hd2⟩ := bytes_in h2
  have hb2 : b2.length ≤ 140737488351232 := by
    rcases hd2 with ⟨_, rfl⟩ | ⟨sp, rfl⟩
    · simp
    · have := sized_slice hsz (j := 2) (t := 23) (e := 5) rfl rfl Try.underlying23
      rw [show Try.prog.bytesOf 5 = 1 by kernel_rfl] at this
      simp only [List.length_map, reachBytes] at this
      omega
  refine (siteDecides_any W a0 b0 ha0 hb0 a1 len1 cap1 b1 hrd1 (by omega) a2 len2 cap2 b2 hrd2 hlc2 hcm2).mono fun e W' ⟨he, hu⟩ => ?_
  have bel := hu.below (B := W.heap.size) (Nat.le_refl _) (by simp)
  subst he
  exact ⟨_, rfl, _, _, _, [], _, [], hW', trodAll_mk1 (shut_bool Try.underlying4 _), (trodAll_cons_mk (Below.trod laidOut (by kernel_rfl) (of_decide_eq_true (by kernel_rfl)) k0 bel lt0) (trodAll_cons_mk (Below.trod laidOut (by kernel_rfl) (of_decide_eq_true (by kernel_rfl)) k1 bel lt1) (trodAll_cons_mk (Below.trod laidOut (by kernel_rfl) (of_decide_eq_true (by kernel_rfl)) k2 bel lt2) trodAll_mk0))), rfl, bel.frame _, fun h => by cases h⟩

theorem siteDecides_row : Rows.SiteDecidesSaid :=
  OpenClaim.holds_of_wide 3 Try.f3 rfl rfl rfl rfl rfl rfl rfl ⟨rfl, rfl, rfl, rfl, rfl⟩ rfl rfl rfl rfl rfl (by kernel_rfl) Try.func3 (by kernel_rfl)
    (of_decide_eq_true (by kernel_rfl)) (by unfold Func.isWrapper; rw [if_neg (of_decide_eq_false (by kernel_rfl))]; exact ⟨rfl, rfl⟩)
    (fun os started H enc _ => siteDecides_lifted os started H enc)

theorem siteDecides_holds : Rows.SiteDecidesSaid := siteDecides_row
#print axioms siteDecides_holds
end Go.Proofs.Ytijhlbeipglieaa
