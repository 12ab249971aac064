/- agioref02.Zig. -/
import Derived.Test.YtmnoahglajilhaaDoorWriter
namespace Go.Proofs.YtmnoahglajilhaaDoor
open Go.RowKit Agio

set_option maxRecDepth 100000 in
theorem refZig (n : Int) (w : World) (hn : I64 n) :
    Calls Tryd.prog 31 #[.int .i64 n] w fun e w' => e = .returned (.int .u64 ((zig n : Nat) : Int)) ∧ w = w' := by
  by_cases h : n < 0
  · have h2 : ¬ 0 ≤ n := by omega
    go_enter Tryd.func31, Tryd.ntmps31
    repeat' ((fail_if_success (with_reducible refine stop_append rfl ?_)); (fail_if_success (with_reducible refine stop_copy rfl ?_)); first | go_values | go_skip | go_guarded | go_step | go_upon | (simp only []; go_at_K))
    rw [zig_neg' hn h]
    go_ret
    exact ⟨rfl, rfl⟩
  · have h2 : 0 ≤ n := by omega
    go_enter Tryd.func31, Tryd.ntmps31
    repeat' ((fail_if_success (with_reducible refine stop_append rfl ?_)); (fail_if_success (with_reducible refine stop_copy rfl ?_)); first | go_values | go_skip | go_guarded | go_step | go_upon | (simp only []; go_at_K))
    rw [zig_pos' hn h]
    go_ret
    exact ⟨rfl, rfl⟩
end Go.Proofs.YtmnoahglajilhaaDoor
