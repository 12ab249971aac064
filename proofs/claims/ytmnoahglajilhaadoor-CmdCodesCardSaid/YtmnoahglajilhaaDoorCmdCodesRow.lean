/-
  agiolaw05.CmdCodes: for every command and all bytes the law returns true and leaves them as they were: the command as bytes, and the bytes as a command, or that they may not be. Conditions: the package-level variable errors.errorType is laid as the text of the program lays it (the handle of the type error).
-/
import Derived.Test.YtmnoahglajilhaaDoorLaid
import Derived.Test.YtmnoahglajilhaaDoorCards
import Derived.Test.YtmnoahglajilhaaDoorTie
import Derived.Test.YtmnoahglajilhaaDoorCmdIn
import Derived.Test.YtmnoahglajilhaaDoorCmdF
import Derived.SevenTiedAt
set_option linter.all false
namespace Go.Proofs.YtmnoahglajilhaaDoor
open Go.ChangeShapes Go.WideShapes Go.RowKit Agio

set_option maxRecDepth 100000 in
set_option maxHeartbeats 1000000 in
theorem cmdCodes_lifted (os : Os) (started : os.Started) (H : Type) (enc : TypeId × Value → H) :
    ReturnsInHanded {} Tryd.checked os 3 .any (fun w args => (Rows.cmdCodesSpec.pre enc Tryd.prog Tryd.f3 [] false w args ∧ laidMetH Tryd.prog [("errors.errorType", Rows.laid_errors_errorType)] w) ∧ sizedMet enc Tryd.prog Tryd.f3 (OpenSpec.ofChange Rows.cmdCodesSpec) false w args)
      (Rows.cmdCodesSpec.post enc Tryd.prog Tryd.f3 false true false false) := by
  refine returnsInHanded_of_change_and (C := Tryd.checked) (X := fun w _ => laidMetH Tryd.prog [("errors.errorType", Rows.laid_errors_errorType)] w) (fun _ _ _ hh h => h.of_heap hh) own started (by kernel_rfl) Tryd.func3
    (ChangeSpec.witness_at (enc := enc) (C := Tryd.checked) (os := os) (X := fun w _ => laidMetH Tryd.prog [("errors.errorType", Rows.laid_errors_errorType)] w) false (laidWorld os) #[.agg #[.int .i64 0, .int .i64 0, .int .i64 0, .int .i64 0, .int .i64 0, .int .i64 0, .int .i64 0, .int .i64 0, .int .i64 0], .slice none 0 0] 8 rfl (by kernel_rfl) (by kernel_rfl) (by kernel_rfl) (by kernel_rfl) (by kernel_rfl) (laidWorld_met os _)) ?_
  intro W base args ds gs before hval0 hW _ hsz0 hL _
  have hsz : (DataW.weightsEach Tryd.prog (Tryd.f3.params.toList ++ Rows.cmdCodesSpec.plain.varTypes Tryd.prog) (ds ++ gs)).all (· ≤ reachBytes) = true := hsz0
  have hval : ∀ (j : Nat) t v, Tryd.f3.params[j]? = some t → args[j]? = some v → Value.okWide Tryd.prog W .any base t v := hval0
  have hW' := hW
  obtain ⟨p, q, hA0, hV0, rfl, hfz, hnd⟩ := hW
  have hA : DataW.TrodAll enc Tryd.prog W 0 (fun _ => true) true Tryd.f3.params.toList args.toList ds p := hA0
  rw [Tryd.params3] at hA hval hsz
  obtain ⟨v0, vs0, d0, ds0, p0, q0, hargs, rfl, rfl, h0, r0⟩ := trodAll_cons hA
  obtain ⟨v1, vs1, d1, ds1, p1, q1, rfl, rfl, rfl, h1, r1⟩ := trodAll_cons r0
  obtain ⟨rfl, rfl, rfl⟩ := trodAll_nil r1
  obtain rfl : args = #[v0, v1] := by cases args; simp_all
  obtain ⟨rfl, rfl⟩ := trodVars_none hV0
  have k0 := h0
  have lt0 : ∀ x ∈ p0, x.block < W.heap.size := by obtain ⟨m, hm⟩ := k0; exact DataW.trod_lt m _ _ _ hm
  obtain ⟨c0, hc0⟩ : ∃ c : Cm, v0 = c.val := by
    obtain ⟨cs, hcs, hsz⟩ := okWide_struct Tryd.underlying23 (hval 0 23 v0 rfl rfl)
    subst hcs
    exact cmd_in (by rw [hsz]; kernel_rfl) h0
  subst hc0
  have k1 := h1
  have lt1 : ∀ x ∈ p1, x.block < W.heap.size := by obtain ⟨m, hm⟩ := k1; exact DataW.trod_lt m _ _ _ hm
  obtain ⟨a1, len1, cap1, rfl⟩ := okWide_slice Tryd.underlying24 (hval 1 24 v1 rfl rfl)
  obtain ⟨b1, hrd1, hlc1, hcm1, hnone1, hd1⟩ := bytes_in h1
  have hb1 : b1.length ≤ 140737488351232 := by
    rcases hd1 with ⟨_, rfl⟩ | ⟨sp, rfl⟩
    · simp
    · have := sized_slice hsz (j := 1) (t := 24) (e := 5) rfl rfl Tryd.underlying24
      rw [show Tryd.prog.bytesOf 5 = 1 by kernel_rfl] at this
      simp only [List.length_map, reachBytes] at this
      omega
  have hG := good_of_laid hL
  refine (cmdCodes_any W hG c0 a1 len1 cap1 b1 hrd1 (by omega)).mono fun e W' ⟨he, hu⟩ => ?_
  have bel := hu.below (B := W.heap.size) (Nat.le_refl _) (by simp)
  subst he
  exact ⟨_, rfl, _, _, _, [], _, [], hW', trodAll_mk1 (shut_bool Tryd.underlying4 _), (trodAll_cons_mk (Below.trod laidOut (by kernel_rfl) (of_decide_eq_true (by kernel_rfl)) k0 bel lt0) (trodAll_cons_mk (Below.trod laidOut (by kernel_rfl) (of_decide_eq_true (by kernel_rfl)) k1 bel lt1) trodAll_mk0)), rfl, bel.frame _, fun h => by cases h⟩

theorem cmdCodes_row : Rows.CmdCodesSaid :=
  OpenClaim.holds_of_wide 3 Tryd.f3 rfl rfl rfl rfl rfl rfl rfl ⟨rfl, rfl, rfl, rfl, rfl⟩ rfl rfl rfl rfl rfl (by kernel_rfl) Tryd.func3 (by kernel_rfl)
    (of_decide_eq_true (by kernel_rfl)) (by unfold Func.isWrapper; rw [if_neg (of_decide_eq_false (by kernel_rfl))]; exact ⟨rfl, rfl⟩)
    (fun os started H enc _ => cmdCodes_lifted os started H enc)

theorem cmdCodes_holds : Rows.CmdCodesCardSaid :=
  Claim7.holds_tied_plain_at .later [] [.handle] true (true, Rows.cmdCodesCard.stood.harness.2) true
    cmdCodes_row (fun _ h => by cases h) (by kernel_rfl) (fun _ h => by cases h) cmdCodes_row_tie rfl ⟨rfl, rfl⟩ (by kernel_rfl) rfl
    (fun f fn hf hfn => by
      obtain rfl : f = 3 := Option.some.inj ((show Tryd.prog.funcNamed "agio/agiolaw05.CmdCodes" = some 3 by kernel_rfl).symm.trans hf) |>.symm
      obtain rfl : fn = Tryd.f3 := (Option.some.inj (Tryd.func3.symm.trans hfn)).symm
      exact ⟨by kernel_rfl, fun j t ht => by
        rw [Tryd.params3] at ht
        have hm := Array.mem_of_getElem? ht
        simp only [List.mem_toArray, List.mem_cons, List.not_mem_nil, or_false] at hm
        rcases hm with rfl | rfl
        · exact (show Tryd.prog.wantsStandIn 23 = false by kernel_rfl)
        · exact (show Tryd.prog.wantsStandIn 24 = false by kernel_rfl)⟩)
    (by kernel_rfl)
#print axioms cmdCodes_holds
end Go.Proofs.YtmnoahglajilhaaDoor
