/-
  agiolaw07.AlogAgain: for all bytes of bulk at most 1048576 the law returns true: what is read of any bytes, laid down again, is what was read, byte by byte.
-/
import Derived.Test.YtdmkhmejpgjioaaRowIn
import Derived.Test.YtdmkhmejpgjioaaBulk
import Derived.Test.YtdmkhmejpgjioaaSlicesIn
import Derived.Test.YtdmkhmejpgjioaaAlogC
namespace Go.Proofs.Ytdmkhmejpgjioaa
open Go.ChangeShapes Go.WideShapes Go.RowKit Agio

set_option maxRecDepth 100000 in
set_option maxHeartbeats 1000000 in
theorem alogAgain_lifted (os : Os) (started : os.Started) (H : Type) (enc : TypeId × Value → H) (F : Stop.Interp) :
    ReturnsInHanded {} Try.checked os 5 .any ((Rows.OpenSpec.upto Rows.alogAgainSpec).pre6 enc Try.prog Try.f5 Rows.alogAgainUptoRow.domain false)
      (((Rows.OpenSpec.upto Rows.alogAgainSpec).at F).post enc Try.prog Try.f5 false true false false) := by
  refine returnsInHanded_of_cond_sized (C := Try.checked) (s := Rows.OpenSpec.upto Rows.alogAgainSpec) (k := Rows.uptoSmall) rfl own started (by kernel_rfl) Try.func5
    (OpenSpec.witness (enc := enc) (C := Try.checked) (s := Rows.OpenSpec.upto Rows.alogAgainSpec) (k := Rows.uptoSmall) rfl false ⟨#[], #[.slice none 0 0], []⟩ 8 (by kernel_rfl) (by kernel_rfl) (by kernel_rfl)
      (x := ([.nil], [], [])) (by kernel_rfl) rfl (by kernel_rfl)) ?_
  intro W base args ds gs before hval0 hW _ hk0 hsz0 _
  have hsz : (DataW.weightsEach Try.prog (Try.f5.params.toList ++ Rows.alogAgainSpec.plain.varTypes Try.prog) (ds ++ gs)).all (· ≤ reachBytes) = true := hsz0
  have hval : ∀ (j : Nat) t v, Try.f5.params[j]? = some t → args[j]? = some v → Value.okWide Try.prog W .any base t v := hval0
  have hW' := hW
  obtain ⟨p, q, hA0, hV0, rfl, hfz, hnd⟩ := hW
  have hA : DataW.TrodAll enc Try.prog W 0 (fun _ => true) true Try.f5.params.toList args.toList ds p := hA0
  rw [Try.params5] at hA hval hsz
  obtain ⟨v0, vs0, d0, ds0, p0, q0, hargs, rfl, rfl, h0, r0⟩ := trodAll_cons hA
  obtain ⟨rfl, rfl, rfl⟩ := trodAll_nil r0
  obtain rfl : args = #[v0] := by cases args; simp_all
  obtain ⟨rfl, rfl⟩ := trodVars_none hV0
  have hbk : Rows.uptoBulkAll ([d0] ++ []) ≤ 1048576 := of_decide_eq_true hk0
  simp only [List.append_nil, Rows.uptoBulkAll] at hbk
  have hs0 : Rows.uptoBulk d0 ≤ 1048576 := by omega
  clear hbk hk0
  have k0 := h0
  have lt0 : ∀ x ∈ p0, x.block < W.heap.size := by obtain ⟨m, hm⟩ := k0; exact DataW.trod_lt m _ _ _ hm
  obtain ⟨a0, len0, cap0, rfl⟩ := okWide_slice Try.underlying25 (hval 0 25 v0 rfl rfl)
  obtain ⟨b0, hrd0, hlc0, hcm0, hnone0, hd0⟩ := bytes_in h0
  have hb0 : b0.length ≤ 140737488351232 := by
    rcases hd0 with ⟨_, rfl⟩ | ⟨sp, rfl⟩
    · simp
    · have := sized_slice hsz (j := 0) (t := 25) (e := 5) rfl rfl Try.underlying25
      rw [show Try.prog.bytesOf 5 = 1 by kernel_rfl] at this
      simp only [List.length_map, reachBytes] at this
      omega
  refine (alogAgain_any W a0 len0 cap0 b0 hrd0 hlc0 hcm0 (Nat.le_trans (Nat.le_trans (bulk_bytes hd0) hs0) (by decide))).mono fun e W' ⟨he, hu⟩ => ?_
  have bel := hu.below (B := W.heap.size) (Nat.le_refl _) (by simp)
  subst he
  exact ⟨_, rfl, _, _, _, [], _, [], hW', trodAll_mk1 (shut_bool Try.underlying4 _), (trodAll_cons_mk (Below.trod laidOut (by kernel_rfl) (of_decide_eq_true (by kernel_rfl)) k0 bel lt0) trodAll_mk0), rfl, bel.frame _, fun h => by cases h⟩

theorem alogAgain_row : Rows.AlogAgainUptoSaid :=
  OpenClaim.holds_of_cond 5 Try.f5 rfl rfl rfl rfl rfl rfl rfl ⟨rfl, rfl, rfl, rfl, rfl⟩ rfl rfl rfl rfl rfl (by kernel_rfl) Try.func5 (by kernel_rfl)
    (of_decide_eq_true (by kernel_rfl)) (by unfold Func.isWrapper; rw [if_neg (of_decide_eq_false (by kernel_rfl))]; exact ⟨rfl, rfl⟩)
    (fun os started H enc _ F => alogAgain_lifted os started H enc F)

theorem alogAgain_holds : Rows.AlogAgainUptoSaid := alogAgain_row
#print axioms alogAgain_holds
end Go.Proofs.Ytdmkhmejpgjioaa
