/- agiolaw02.WireNobody, walked. -/
import Derived.Test.YtchlceolccfdhaaDoorNil
import Derived.Test.YtchlceolccfdhaaDoorAwake2
namespace Go.Proofs.YtchlceolccfdhaaDoor
open Go.RowKit Agio

set_option maxRecDepth 100000 in
set_option maxHeartbeats 4000000 in
theorem wireNobody_any (w : World) (hG : GoodG w) (most : Int) :
    Calls Tryd.prog 6 #[.int .i64 most] w fun ev w' => ev = .returned (.bool true) ∧ Upd [] [] w w' := by
  go_enter Tryd.func6, Tryd.ntmps6
  repeat' ((fail_if_success (refine stop_append rfl ?_)); (fail_if_success (refine stop_copy rfl ?_)); first | go_values | go_skip | go_guarded | go_step | go_upon | (simp only []; go_at_K))
  refine (awake02 w hG).mono ?_
  rintro ev w1 ⟨rfl, hu1⟩
  have hG1 := hG.upd hu1 (by simp)
  repeat' ((fail_if_success (refine stop_append rfl ?_)); (fail_if_success (refine stop_copy rfl ?_)); first | go_values | go_skip | go_guarded | go_step | go_upon | (simp only []; go_at_K))
  refine (nilUint w1).mono ?_
  rintro ev w2 ⟨rfl, rfl⟩
  repeat' ((fail_if_success (refine stop_append rfl ?_)); (fail_if_success (refine stop_copy rfl ?_)); first | go_values | go_skip | go_guarded | go_step | go_upon | (simp only []; go_at_K))
  refine (nilInt w1).mono ?_
  rintro ev w2 ⟨rfl, rfl⟩
  repeat' ((fail_if_success (refine stop_append rfl ?_)); (fail_if_success (refine stop_copy rfl ?_)); first | go_values | go_skip | go_guarded | go_step | go_upon | (simp only []; go_at_K))
  refine (nilSmall most w1).mono ?_
  rintro ev w2 ⟨rfl, rfl⟩
  repeat' ((fail_if_success (refine stop_append rfl ?_)); (fail_if_success (refine stop_copy rfl ?_)); first | go_values | go_skip | go_guarded | go_step | go_upon | (simp only []; go_at_K))
  refine (nilBytes most w1).mono ?_
  rintro ev w2 ⟨rfl, nq, rfl⟩
  have hu2 := hu1.drewN nq
  have hG2 : GoodG (w1.drewN nq) := hG1
  generalize w1.drewN nq = W at *
  clear hu1 hG1
  repeat' ((fail_if_success (refine stop_append rfl ?_)); (fail_if_success (refine stop_copy rfl ?_)); first | go_values | go_skip | go_guarded | go_step | go_upon | (simp only []; go_at_K))
  refine (codeEr (.wf 3 0) W hG2).mono ?_
  rintro ev w3 ⟨rfl, hu3⟩
  have hG3 := hG2.upd hu3 (by simp)
  have hu3 := hu2.trans hu3
  simp only [Er.code]
  repeat' ((fail_if_success (refine stop_append rfl ?_)); (fail_if_success (refine stop_copy rfl ?_)); first | go_values | go_skip | go_guarded | go_step | go_upon | (simp only []; go_at_K))
  refine (codeEr (.wf 3 0) w3 hG3).mono ?_
  rintro ev w4 ⟨rfl, hu4⟩
  have hG4 := hG3.upd hu4 (by simp)
  have hu4 := hu3.trans hu4
  simp only [Er.code]
  repeat' ((fail_if_success (refine stop_append rfl ?_)); (fail_if_success (refine stop_copy rfl ?_)); first | go_values | go_skip | go_guarded | go_step | go_upon | (simp only []; go_at_K))
  refine (codeEr (.wf 3 0) w4 hG4).mono ?_
  rintro ev w5 ⟨rfl, hu5⟩
  have hG5 := hG4.upd hu5 (by simp)
  have hu5 := hu4.trans hu5
  simp only [Er.code]
  repeat' ((fail_if_success (refine stop_append rfl ?_)); (fail_if_success (refine stop_copy rfl ?_)); first | go_values | go_skip | go_guarded | go_step | go_upon | (simp only []; go_at_K))
  refine (codeEr (.wf 3 0) w5 hG5).mono ?_
  rintro ev w6 ⟨rfl, hu6⟩
  have hu6 := hu5.trans hu6
  simp only [Er.code]
  repeat' ((fail_if_success (refine stop_append rfl ?_)); (fail_if_success (refine stop_copy rfl ?_)); first | go_values | go_skip | go_guarded | go_step | go_upon | (simp only []; go_at_K))
  refine (nilEnd w6).mono ?_
  rintro ev w7 ⟨rfl, rfl⟩
  repeat' ((fail_if_success (refine stop_append rfl ?_)); (fail_if_success (refine stop_copy rfl ?_)); first | go_values | go_skip | go_guarded | go_step | go_upon | (simp only []; go_at_K))
  refine (nilLeft w6).mono ?_
  rintro ev w7 ⟨rfl, rfl⟩
  repeat' ((fail_if_success (refine stop_append rfl ?_)); (fail_if_success (refine stop_copy rfl ?_)); first | go_values | go_skip | go_guarded | go_step | go_upon | (simp only []; go_at_K))
  go_ret
  exact ⟨rfl, hu6⟩
end Go.Proofs.YtchlceolccfdhaaDoor
