/-
  agiolaw07.AlogReads: for all records, bytes, kinds and slots of bulk at most 1048576 the law returns true: what is laid down, all that are read of any bytes, the last one of any kind about any slot, and all slots, are the document's.
-/
import Derived.Test.YtdmmpcdilkcfjaaRowIn
import Derived.Test.YtdmmpcdilkcfjaaBulk
import Derived.Test.YtdmmpcdilkcfjaaReadsV
import Derived.Test.YtdmmpcdilkcfjaaReads07
namespace Go.Proofs.Ytdmmpcdilkcfjaa
open Go.ChangeShapes Go.WideShapes Go.RowKit Agio

set_option maxRecDepth 100000 in
set_option maxHeartbeats 1000000 in
theorem alogReads_lifted (os : Os) (started : os.Started) (H : Type) (enc : TypeId × Value → H) (F : Stop.Interp) :
    ReturnsInHanded {} Try.checked os 5 .any ((Rows.OpenSpec.upto Rows.alogReadsSpec).pre6 enc Try.prog Try.f5 Rows.alogReadsUptoRow.domain false)
      (((Rows.OpenSpec.upto Rows.alogReadsSpec).at F).post enc Try.prog Try.f5 false true false false) := by
  refine returnsInHanded_of_cond_sized (C := Try.checked) (s := Rows.OpenSpec.upto Rows.alogReadsSpec) (k := Rows.uptoSmall) rfl own started (by kernel_rfl) Try.func5
    (OpenSpec.witness (enc := enc) (C := Try.checked) (s := Rows.OpenSpec.upto Rows.alogReadsSpec) (k := Rows.uptoSmall) rfl false ⟨#[], #[.agg #[.slice none 0 0, .slice none 0 0, .int .i64 0, .int .i64 0]], []⟩ 8 (by kernel_rfl) (by kernel_rfl) (by kernel_rfl)
      (x := ([(.agg [.nil, .nil, .lit (.int .i64 0), .lit (.int .i64 0)])], [], [])) (by kernel_rfl) rfl (by kernel_rfl)) ?_
  intro W base args ds gs before hval0 hW _ hk0 hsz0 _
  have hsz : (DataW.weightsEach Try.prog (Try.f5.params.toList ++ Rows.alogReadsSpec.plain.varTypes Try.prog) (ds ++ gs)).all (· ≤ reachBytes) = true := hsz0
  have hval : ∀ (j : Nat) t v, Try.f5.params[j]? = some t → args[j]? = some v → Value.okWide Try.prog W .any base t v := hval0
  have hW' := hW
  obtain ⟨p, q, hA0, hV0, rfl, hfz, hnd⟩ := hW
  have hA : DataW.TrodAll enc Try.prog W 0 (fun _ => true) true Try.f5.params.toList args.toList ds p := hA0
  rw [Try.params5] at hA hval hsz
  obtain ⟨v0, vs0, d0, ds0, p0, q0, hargs, rfl, rfl, h0, r0⟩ := trodAll_cons hA
  obtain ⟨rfl, rfl, rfl⟩ := trodAll_nil r0
  obtain rfl : args = #[v0] := by cases args; simp_all
  obtain ⟨rfl, rfl⟩ := trodVars_none hV0
  have hbk : Rows.uptoBulkAll ([d0] ++ []) ≤ 1048576 := of_decide_eq_true hk0
  simp only [List.append_nil, Rows.uptoBulkAll] at hbk
  have hs0 : Rows.uptoBulk d0 ≤ 1048576 := by omega
  clear hbk hk0
  have k0 := h0
  have lt0 : ∀ x ∈ p0, x.block < W.heap.size := by obtain ⟨m, hm⟩ := k0; exact DataW.trod_lt m _ _ _ hm
  obtain ⟨A0, n0, c0, B0, m0, e0, l0, b0, kk0, ss0, hx0, hl0, he0, hrb0, hmc0, hcm0, hbl0⟩ : ∃ (A : Option Addr) (n c : Nat) (B : Option Addr) (m e : Nat) (l : List Rv) (b : List UInt8) (k s : Int), v0 = .agg #[.slice A n c, .slice B m e, .int .i64 k, .int .i64 s] ∧ RdS Rv.cells 5 W A n l ∧
      (∀ x ∈ l, RdB W x.A x.n x.b ∧ x.b.length ≤ 140737488351232 ∧ (Lit.int .i64 x.s).wf = true) ∧ RdB W B m b ∧ m ≤ e ∧ e ≤ maxLen ∧ b.length ≤ 1048576 := by
    obtain ⟨cs, hcs, -⟩ := okWide_struct Try.underlying63 (hval 0 63 v0 rfl rfl)
    subst hcs
    exact reads07_in h0 (fun k hk => by simpa using List.all_eq_true.1 hsz k (DataW.weights_mem_each (j := 0) (t := 63) rfl rfl k hk)) hs0
  subst hx0
  refine (alogReads_any W A0 n0 c0 l0 ⟨hl0, fun x hx => (he0 x hx).1⟩ (fun x hx => ⟨Nat.le_trans (he0 x hx).2.1 (by decide), (he0 x hx).2.2⟩) B0 m0 e0 b0 hrb0 hmc0 hcm0 hbl0 kk0 ss0).mono fun e W' ⟨he, hu⟩ => ?_
  have bel := hu.below (B := W.heap.size) (Nat.le_refl _) (by simp)
  subst he
  exact ⟨_, rfl, _, _, _, [], _, [], hW', trodAll_mk1 (shut_bool Try.underlying4 _), (trodAll_cons_mk (Below.trod laidOut (by kernel_rfl) (of_decide_eq_true (by kernel_rfl)) k0 bel lt0) trodAll_mk0), rfl, bel.frame _, fun h => by cases h⟩

theorem alogReads_row : Rows.AlogReadsUptoSaid :=
  OpenClaim.holds_of_cond 5 Try.f5 rfl rfl rfl rfl rfl rfl rfl ⟨rfl, rfl, rfl, rfl, rfl⟩ rfl rfl rfl rfl rfl (by kernel_rfl) Try.func5 (by kernel_rfl)
    (of_decide_eq_true (by kernel_rfl)) (by unfold Func.isWrapper; rw [if_neg (of_decide_eq_false (by kernel_rfl))]; exact ⟨rfl, rfl⟩)
    (fun os started H enc _ F => alogReads_lifted os started H enc F)

theorem alogReads_holds : Rows.AlogReadsUptoSaid := alogReads_row
#print axioms alogReads_holds
end Go.Proofs.Ytdmmpcdilkcfjaa
