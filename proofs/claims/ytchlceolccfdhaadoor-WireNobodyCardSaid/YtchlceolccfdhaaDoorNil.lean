/- A reader that is nil: what each method tells of it. -/
import Derived.Test.YtchlceolccfdhaaDoorReader3
namespace Go.Proofs.YtchlceolccfdhaaDoor
open Go.RowKit Agio

set_option maxRecDepth 100000 in
theorem nilLeft (w : World) : Calls Tryd.prog 24 #[.pointer none] w fun e w' => e = .returned (.int .i64 0) ∧ w = w' := by
  go_enter Tryd.func24, Tryd.ntmps24
  repeat' ((fail_if_success (refine stop_append rfl ?_)); (fail_if_success (refine stop_copy rfl ?_)); first | go_values | go_skip | go_guarded | go_step | go_upon | (simp only []; go_at_K))
  go_ret
  exact ⟨rfl, rfl⟩
set_option maxRecDepth 100000 in
theorem nilFault (no : Int) (w : World) : Calls Tryd.prog 61 #[.pointer none, .int .i64 no] w fun e w' => e = .returned (.iface 133 (.agg #[.int .i64 no, .int .i64 0])) ∧ w = w' := by
  go_enter Tryd.func61, Tryd.ntmps61
  repeat' ((fail_if_success (refine stop_append rfl ?_)); (fail_if_success (refine stop_copy rfl ?_)); first | go_values | go_skip | go_guarded | go_step | go_upon | (simp only []; go_at_K))
  go_ret
  exact ⟨rfl, rfl⟩
set_option maxRecDepth 100000 in
theorem nilNext (w : World) : Calls Tryd.prog 60 #[.pointer none] w fun e w' => e = .returned (.tuple #[.int .u64 0, .int .i64 0, .int .i64 3]) ∧ w = w' := by
  go_enter Tryd.func60, Tryd.ntmps60
  repeat' ((fail_if_success (refine stop_append rfl ?_)); (fail_if_success (refine stop_copy rfl ?_)); first | go_values | go_skip | go_guarded | go_step | go_upon | (simp only []; go_at_K))
  go_ret3
  exact ⟨rfl, rfl⟩
set_option maxRecDepth 100000 in
theorem nilUpTo (most : Int) (w : World) : Calls Tryd.prog 62 #[.pointer none, .int .i64 most] w fun e w' => e = .returned (.tuple #[.int .i64 0, .int .i64 0, .int .i64 3]) ∧ w = w' := by
  go_enter Tryd.func62, Tryd.ntmps62
  repeat' ((fail_if_success (refine stop_append rfl ?_)); (fail_if_success (refine stop_copy rfl ?_)); first | go_values | go_skip | go_guarded | go_step | go_upon | (simp only []; go_at_K))
  refine (nilNext w).mono ?_
  rintro e w1 ⟨rfl, rfl⟩
  repeat' ((fail_if_success (refine stop_append rfl ?_)); (fail_if_success (refine stop_copy rfl ?_)); first | go_values | go_skip | go_guarded | go_step | go_upon | (simp only []; go_at_K))
  go_ret3
  exact ⟨rfl, rfl⟩
set_option maxRecDepth 100000 in
theorem nilUint (w : World) : Calls Tryd.prog 23 #[.pointer none] w fun e w' => e = .returned (.tuple #[.int .u64 0, .iface 133 (.agg #[.int .i64 3, .int .i64 0])]) ∧ w = w' := by
  go_enter Tryd.func23, Tryd.ntmps23
  repeat' ((fail_if_success (refine stop_append rfl ?_)); (fail_if_success (refine stop_copy rfl ?_)); first | go_values | go_skip | go_guarded | go_step | go_upon | (simp only []; go_at_K))
  refine (nilNext w).mono ?_
  rintro e w1 ⟨rfl, rfl⟩
  repeat' ((fail_if_success (refine stop_append rfl ?_)); (fail_if_success (refine stop_copy rfl ?_)); first | go_values | go_skip | go_guarded | go_step | go_upon | (simp only []; go_at_K))
  refine (nilFault _ w).mono ?_
  rintro e w1 ⟨rfl, rfl⟩
  repeat' ((fail_if_success (refine stop_append rfl ?_)); (fail_if_success (refine stop_copy rfl ?_)); first | go_values | go_skip | go_guarded | go_step | go_upon | (simp only []; go_at_K))
  go_ret2
  exact ⟨rfl, rfl⟩
set_option maxRecDepth 100000 in
theorem nilInt (w : World) : Calls Tryd.prog 27 #[.pointer none] w fun e w' => e = .returned (.tuple #[.int .i64 0, .iface 133 (.agg #[.int .i64 3, .int .i64 0])]) ∧ w = w' := by
  go_enter Tryd.func27, Tryd.ntmps27
  repeat' ((fail_if_success (refine stop_append rfl ?_)); (fail_if_success (refine stop_copy rfl ?_)); first | go_values | go_skip | go_guarded | go_step | go_upon | (simp only []; go_at_K))
  refine (nilUint w).mono ?_
  rintro e w1 ⟨rfl, rfl⟩
  repeat' ((fail_if_success (refine stop_append rfl ?_)); (fail_if_success (refine stop_copy rfl ?_)); first | go_values | go_skip | go_guarded | go_step | go_upon | (simp only []; go_at_K))
  go_ret2
  exact ⟨rfl, rfl⟩
set_option maxRecDepth 100000 in
theorem nilSmall (most : Int) (w : World) : Calls Tryd.prog 30 #[.pointer none, .int .i64 most] w fun e w' => e = .returned (.tuple #[.int .i64 0, .iface 133 (.agg #[.int .i64 3, .int .i64 0])]) ∧ w = w' := by
  go_enter Tryd.func30, Tryd.ntmps30
  repeat' ((fail_if_success (refine stop_append rfl ?_)); (fail_if_success (refine stop_copy rfl ?_)); first | go_values | go_skip | go_guarded | go_step | go_upon | (simp only []; go_at_K))
  refine (nilUpTo most w).mono ?_
  rintro e w1 ⟨rfl, rfl⟩
  repeat' ((fail_if_success (refine stop_append rfl ?_)); (fail_if_success (refine stop_copy rfl ?_)); first | go_values | go_skip | go_guarded | go_step | go_upon | (simp only []; go_at_K))
  refine (nilFault _ w).mono ?_
  rintro e w1 ⟨rfl, rfl⟩
  repeat' ((fail_if_success (refine stop_append rfl ?_)); (fail_if_success (refine stop_copy rfl ?_)); first | go_values | go_skip | go_guarded | go_step | go_upon | (simp only []; go_at_K))
  go_ret2
  exact ⟨rfl, rfl⟩
set_option maxRecDepth 100000 in
theorem nilBytes (most : Int) (w : World) : Calls Tryd.prog 28 #[.pointer none, .int .i64 most] w fun e w' => e = .returned (.tuple #[.slice none 0 0, .iface 133 (.agg #[.int .i64 3, .int .i64 0])]) ∧ ∃ n, w' = w.drewN n := by
  go_enter Tryd.func28, Tryd.ntmps28
  repeat' ((fail_if_success (refine stop_append rfl ?_)); (fail_if_success (refine stop_copy rfl ?_)); first | go_values | go_skip | go_guarded | go_step | go_upon | (simp only []; go_at_K))
  refine (nilUpTo most w).mono ?_
  rintro e w1 ⟨rfl, rfl⟩
  repeat' ((fail_if_success (refine stop_append rfl ?_)); (fail_if_success (refine stop_copy rfl ?_)); first | go_values | go_skip | go_guarded | go_step | go_upon | (simp only []; go_at_K))
  go_quiet (fail)
  repeat' ((fail_if_success (refine stop_append rfl ?_)); (fail_if_success (refine stop_copy rfl ?_)); first | go_values | go_skip | go_guarded | go_step | go_upon | (simp only []; go_at_K))
  refine (nilFault _ _).mono ?_
  rintro e w1 ⟨rfl, rfl⟩
  repeat' ((fail_if_success (refine stop_append rfl ?_)); (fail_if_success (refine stop_copy rfl ?_)); first | go_values | go_skip | go_guarded | go_step | go_upon | (simp only []; go_at_K))
  go_ret2
  exact ⟨rfl, nq, rfl⟩
set_option maxRecDepth 100000 in
theorem nilEnd (w : World) : Calls Tryd.prog 29 #[.pointer none] w fun e w' => e = .returned .nilIface ∧ w = w' := by
  go_enter Tryd.func29, Tryd.ntmps29
  repeat' ((fail_if_success (refine stop_append rfl ?_)); (fail_if_success (refine stop_copy rfl ?_)); first | go_values | go_skip | go_guarded | go_step | go_upon | (simp only []; go_at_K))
  refine (nilLeft w).mono ?_
  rintro e w1 ⟨rfl, rfl⟩
  repeat' ((fail_if_success (refine stop_append rfl ?_)); (fail_if_success (refine stop_copy rfl ?_)); first | go_values | go_skip | go_guarded | go_step | go_upon | (simp only []; go_at_K))
  go_ret
  exact ⟨rfl, rfl⟩
end Go.Proofs.YtchlceolccfdhaaDoor
