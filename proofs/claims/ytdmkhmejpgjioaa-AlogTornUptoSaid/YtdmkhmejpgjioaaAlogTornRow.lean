/-
  agiolaw07.AlogTorn: for all records, numbers and bytes of bulk at most 1048576 the law returns true: of a beginning of records, laid down, those that are whole in it are read, as they were, whatever stands behind it.
-/
import Derived.Test.YtdmkhmejpgjioaaRowIn
import Derived.Test.YtdmkhmejpgjioaaBulk
import Derived.Test.YtdmkhmejpgjioaaSlicesIn
import Derived.Test.YtdmkhmejpgjioaaAlogD
namespace Go.Proofs.Ytdmkhmejpgjioaa
open Go.ChangeShapes Go.WideShapes Go.RowKit Agio

set_option maxRecDepth 100000 in
set_option maxHeartbeats 1000000 in
theorem alogTorn_lifted (os : Os) (started : os.Started) (H : Type) (enc : TypeId × Value → H) (F : Stop.Interp) :
    ReturnsInHanded {} Try.checked os 4 .any ((Rows.OpenSpec.upto Rows.alogTornSpec).pre6 enc Try.prog Try.f4 Rows.alogTornUptoRow.domain false)
      (((Rows.OpenSpec.upto Rows.alogTornSpec).at F).post enc Try.prog Try.f4 false true false false) := by
  refine returnsInHanded_of_cond_sized (C := Try.checked) (s := Rows.OpenSpec.upto Rows.alogTornSpec) (k := Rows.uptoSmall) rfl own started (by kernel_rfl) Try.func4
    (OpenSpec.witness (enc := enc) (C := Try.checked) (s := Rows.OpenSpec.upto Rows.alogTornSpec) (k := Rows.uptoSmall) rfl false ⟨#[], #[.slice none 0 0, .int .u16 0, .slice none 0 0], []⟩ 8 (by kernel_rfl) (by kernel_rfl) (by kernel_rfl)
      (x := ([.nil, (.lit (.int .u16 0)), .nil], [], [])) (by kernel_rfl) rfl (by kernel_rfl)) ?_
  intro W base args ds gs before hval0 hW _ hk0 hsz0 _
  have hsz : (DataW.weightsEach Try.prog (Try.f4.params.toList ++ Rows.alogTornSpec.plain.varTypes Try.prog) (ds ++ gs)).all (· ≤ reachBytes) = true := hsz0
  have hval : ∀ (j : Nat) t v, Try.f4.params[j]? = some t → args[j]? = some v → Value.okWide Try.prog W .any base t v := hval0
  have hW' := hW
  obtain ⟨p, q, hA0, hV0, rfl, hfz, hnd⟩ := hW
  have hA : DataW.TrodAll enc Try.prog W 0 (fun _ => true) true Try.f4.params.toList args.toList ds p := hA0
  rw [Try.params4] at hA hval hsz
  obtain ⟨v0, vs0, d0, ds0, p0, q0, hargs, rfl, rfl, h0, r0⟩ := trodAll_cons hA
  obtain ⟨v1, vs1, d1, ds1, p1, q1, rfl, rfl, rfl, h1, r1⟩ := trodAll_cons r0
  obtain ⟨v2, vs2, d2, ds2, p2, q2, rfl, rfl, rfl, h2, r2⟩ := trodAll_cons r1
  obtain ⟨rfl, rfl, rfl⟩ := trodAll_nil r2
  obtain rfl : args = #[v0, v1, v2] := by cases args; simp_all
  obtain ⟨rfl, rfl⟩ := trodVars_none hV0
  have hbk : Rows.uptoBulkAll ([d0, d1, d2] ++ []) ≤ 1048576 := of_decide_eq_true hk0
  simp only [List.append_nil, Rows.uptoBulkAll] at hbk
  have hs0 : Rows.uptoBulk d0 ≤ 1048576 := by omega
  have hs1 : Rows.uptoBulk d1 ≤ 1048576 := by omega
  have hs2 : Rows.uptoBulk d2 ≤ 1048576 := by omega
  clear hbk hk0
  have k0 := h0
  have lt0 : ∀ x ∈ p0, x.block < W.heap.size := by obtain ⟨m, hm⟩ := k0; exact DataW.trod_lt m _ _ _ hm
  obtain ⟨a0, len0, cap0, rfl⟩ := okWide_slice Try.underlying22 (hval 0 22 v0 rfl rfl)
  obtain ⟨l0, hl0, he0, hn0⟩ := recs_in h0 (fun k hk => by simpa using List.all_eq_true.1 hsz k (DataW.weights_mem_each (j := 0) (t := 22) rfl rfl k hk))
  have k1 := h1
  have lt1 : ∀ x ∈ p1, x.block < W.heap.size := by obtain ⟨m, hm⟩ := k1; exact DataW.trod_lt m _ _ _ hm
  obtain ⟨n1, hv1, -, -, hw1⟩ := open_int Try.underlying45 (hval 1 45 v1 rfl rfl) h1
  subst hv1
  have hb1 := bounds_u16 hw1
  obtain ⟨m1, rfl⟩ : ∃ m : Nat, n1 = (m : Int) := ⟨n1.toNat, by omega⟩
  have k2 := h2
  have lt2 : ∀ x ∈ p2, x.block < W.heap.size := by obtain ⟨m, hm⟩ := k2; exact DataW.trod_lt m _ _ _ hm
  obtain ⟨a2, len2, cap2, rfl⟩ := okWide_slice Try.underlying25 (hval 2 25 v2 rfl rfl)
  obtain ⟨b2, hrd2, hlc2, hcm2, hnone2, hd2⟩ := bytes_in h2
  have hb2 : b2.length ≤ 140737488351232 := by
    rcases hd2 with ⟨_, rfl⟩ | ⟨sp, rfl⟩
    · simp
    · have := sized_slice hsz (j := 2) (t := 25) (e := 5) rfl rfl Try.underlying25
      rw [show Try.prog.bytesOf 5 = 1 by kernel_rfl] at this
      simp only [List.length_map, reachBytes] at this
      omega
  refine (alogTorn_any W a0 len0 cap0 l0 ⟨hl0, fun x hx => (he0 x hx).1⟩ (by omega) m1 (by omega) a2 len2 cap2 b2 hrd2 (Nat.le_trans (bulk_bytes hd2) hs2)).mono fun e W' ⟨he, hu⟩ => ?_
  have bel := hu.below (B := W.heap.size) (Nat.le_refl _) (by simp)
  subst he
  exact ⟨_, rfl, _, _, _, [], _, [], hW', trodAll_mk1 (shut_bool Try.underlying4 _), (trodAll_cons_mk (Below.trod laidOut (by kernel_rfl) (of_decide_eq_true (by kernel_rfl)) k0 bel lt0) (trodAll_cons_mk (Below.trod laidOut (by kernel_rfl) (of_decide_eq_true (by kernel_rfl)) k1 bel lt1) (trodAll_cons_mk (Below.trod laidOut (by kernel_rfl) (of_decide_eq_true (by kernel_rfl)) k2 bel lt2) trodAll_mk0))), rfl, bel.frame _, fun h => by cases h⟩

theorem alogTorn_row : Rows.AlogTornUptoSaid :=
  OpenClaim.holds_of_cond 4 Try.f4 rfl rfl rfl rfl rfl rfl rfl ⟨rfl, rfl, rfl, rfl, rfl⟩ rfl rfl rfl rfl rfl (by kernel_rfl) Try.func4 (by kernel_rfl)
    (of_decide_eq_true (by kernel_rfl)) (by unfold Func.isWrapper; rw [if_neg (of_decide_eq_false (by kernel_rfl))]; exact ⟨rfl, rfl⟩)
    (fun os started H enc _ F => alogTorn_lifted os started H enc F)

theorem alogTorn_holds : Rows.AlogTornUptoSaid := alogTorn_row
#print axioms alogTorn_holds
end Go.Proofs.Ytdmkhmejpgjioaa
