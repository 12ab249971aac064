/- A net that is nil; a place where there is no packet. -/
import Derived.Test.YtdmkhmejpgjioaaNetA
namespace Go.Proofs.Ytdmkhmejpgjioaa
open Go.RowKit Agio

set_option maxRecDepth 100000 in
theorem nilThere (i : Int) (w : World) : Calls Try.prog 92 #[.pointer none, .int .i64 i] w fun e w' => e = .returned (.bool false) ∧ w = w' := by
  go_enter Try.func92, Try.ntmps92
  repeat' ((fail_if_success (with_reducible refine stop_append rfl ?_)); (fail_if_success (with_reducible refine stop_copy rfl ?_)); first | go_values | go_skip | go_guarded | go_step | go_upon | (simp only []; go_at_K))
  go_ret
  exact ⟨rfl, rfl⟩
set_option maxRecDepth 100000 in
theorem nilLen (w : World) : Calls Try.prog 36 #[.pointer none] w fun e w' => e = .returned (.int .i64 0) ∧ w = w' := by
  go_enter Try.func36, Try.ntmps36
  repeat' ((fail_if_success (with_reducible refine stop_append rfl ?_)); (fail_if_success (with_reducible refine stop_copy rfl ?_)); first | go_values | go_skip | go_guarded | go_step | go_upon | (simp only []; go_at_K))
  go_ret
  exact ⟨rfl, rfl⟩
set_option maxRecDepth 100000 in
theorem nilSend (to : Int) (B : Option Addr) (m d : Nat) (w : World) : Calls Try.prog 33 #[.pointer none, .int .i64 to, .slice B m d] w fun e w' => e = .returned (.int .i64 6) ∧ w = w' := by
  go_enter Try.func33, Try.ntmps33
  repeat' ((fail_if_success (with_reducible refine stop_append rfl ?_)); (fail_if_success (with_reducible refine stop_copy rfl ?_)); first | go_values | go_skip | go_guarded | go_step | go_upon | (simp only []; go_at_K))
  go_ret
  exact ⟨rfl, rfl⟩
set_option maxRecDepth 100000 in
theorem nilFirst (to : Int) (w : World) : Calls Try.prog 38 #[.pointer none, .int .i64 to] w fun e w' => e = .returned (.int .i64 (-1)) ∧ w = w' := by
  go_enter Try.func38, Try.ntmps38
  repeat' ((fail_if_success (with_reducible refine stop_append rfl ?_)); (fail_if_success (with_reducible refine stop_copy rfl ?_)); first | go_values | go_skip | go_guarded | go_step | go_upon | (simp only []; go_at_K))
  go_ret
  exact ⟨rfl, rfl⟩

section
variable (p : Option Addr) (i : Int) (w : World) (C : Calls Try.prog 92 #[.pointer p, .int .i64 i] w fun e w' => e = .returned (.bool false) ∧ w = w')
include C
set_option maxRecDepth 100000 in
theorem takeNo : Calls Try.prog 35 #[.pointer p, .int .i64 i] w fun e w' => e = .returned (.tuple #[.int .i64 0, .slice none 0 0, .bool false]) ∧ w = w' := by
  go_enter Try.func35, Try.ntmps35
  repeat' ((fail_if_success (with_reducible refine stop_append rfl ?_)); (fail_if_success (with_reducible refine stop_copy rfl ?_)); first | go_values | go_skip | go_guarded | go_step | go_upon | (simp only []; go_at_K))
  ((with_reducible refine C.mono ?_); rintro e w1 ⟨rfl, rfl⟩)
  repeat' ((fail_if_success (with_reducible refine stop_append rfl ?_)); (fail_if_success (with_reducible refine stop_copy rfl ?_)); first | go_values | go_skip | go_guarded | go_step | go_upon | (simp only []; go_at_K))
  go_ret3
  exact ⟨rfl, rfl⟩
set_option maxRecDepth 100000 in
theorem doubleNo : Calls Try.prog 37 #[.pointer p, .int .i64 i] w fun e w' => e = .returned (.int .i64 6) ∧ w = w' := by
  go_enter Try.func37, Try.ntmps37
  repeat' ((fail_if_success (with_reducible refine stop_append rfl ?_)); (fail_if_success (with_reducible refine stop_copy rfl ?_)); first | go_values | go_skip | go_guarded | go_step | go_upon | (simp only []; go_at_K))
  ((with_reducible refine C.mono ?_); rintro e w1 ⟨rfl, rfl⟩)
  repeat' ((fail_if_success (with_reducible refine stop_append rfl ?_)); (fail_if_success (with_reducible refine stop_copy rfl ?_)); first | go_values | go_skip | go_guarded | go_step | go_upon | (simp only []; go_at_K))
  go_ret
  exact ⟨rfl, rfl⟩
set_option maxRecDepth 100000 in
theorem spoilNo (pl : Int) (c : Int) : Calls Try.prog 34 #[.pointer p, .int .i64 i, .int .i64 pl, .int .u8 c] w fun e w' => e = .returned (.int .i64 6) ∧ w = w' := by
  go_enter Try.func34, Try.ntmps34
  repeat' ((fail_if_success (with_reducible refine stop_append rfl ?_)); (fail_if_success (with_reducible refine stop_copy rfl ?_)); first | go_values | go_skip | go_guarded | go_step | go_upon | (simp only []; go_at_K))
  ((with_reducible refine C.mono ?_); rintro e w1 ⟨rfl, rfl⟩)
  repeat' ((fail_if_success (with_reducible refine stop_append rfl ?_)); (fail_if_success (with_reducible refine stop_copy rfl ?_)); first | go_values | go_skip | go_guarded | go_step | go_upon | (simp only []; go_at_K))
  go_ret
  exact ⟨rfl, rfl⟩
end

set_option maxRecDepth 100000 in
set_option maxHeartbeats 4000000 in
theorem netNobody_any (w : World) (to at_ : Int) (B : Option Addr) (m d : Nat) :
    Calls Try.prog 10 #[.int .i64 to, .int .i64 at_, .slice B m d] w fun e w' => e = .returned (.bool true) ∧ Upd [] [] w w' := by
  go_enter Try.func10, Try.ntmps10
  repeat' ((fail_if_success (with_reducible refine stop_append rfl ?_)); (fail_if_success (with_reducible refine stop_copy rfl ?_)); first | go_values | go_skip | go_guarded | go_step | go_upon | (simp only []; go_at_K))
  ((with_reducible refine (awake13 _).mono ?_); rintro e w1 ⟨rfl, hu1⟩)
  repeat' ((fail_if_success (with_reducible refine stop_append rfl ?_)); (fail_if_success (with_reducible refine stop_copy rfl ?_)); first | go_values | go_skip | go_guarded | go_step | go_upon | (simp only []; go_at_K))
  ((with_reducible refine (takeNo none at_ w1 (nilThere _ _)).mono ?_); rintro e w2 ⟨rfl, rfl⟩)
  repeat' ((fail_if_success (with_reducible refine stop_append rfl ?_)); (fail_if_success (with_reducible refine stop_copy rfl ?_)); first | go_values | go_skip | go_guarded | go_step | go_upon | (simp only []; go_at_K))
  ((with_reducible refine (nilSend to B m d w1).mono ?_); rintro e w2 ⟨rfl, rfl⟩)
  repeat' ((fail_if_success (with_reducible refine stop_append rfl ?_)); (fail_if_success (with_reducible refine stop_copy rfl ?_)); first | go_values | go_skip | go_guarded | go_step | go_upon | (simp only []; go_at_K))
  ((with_reducible refine (doubleNo none at_ w1 (nilThere _ _)).mono ?_); rintro e w2 ⟨rfl, rfl⟩)
  repeat' ((fail_if_success (with_reducible refine stop_append rfl ?_)); (fail_if_success (with_reducible refine stop_copy rfl ?_)); first | go_values | go_skip | go_guarded | go_step | go_upon | (simp only []; go_at_K))
  ((with_reducible refine (spoilNo none at_ w1 (nilThere _ _) 0 1).mono ?_); rintro e w2 ⟨rfl, rfl⟩)
  repeat' ((fail_if_success (with_reducible refine stop_append rfl ?_)); (fail_if_success (with_reducible refine stop_copy rfl ?_)); first | go_values | go_skip | go_guarded | go_step | go_upon | (simp only []; go_at_K))
  ((with_reducible refine (nilLen w1).mono ?_); rintro e w2 ⟨rfl, rfl⟩)
  repeat' ((fail_if_success (with_reducible refine stop_append rfl ?_)); (fail_if_success (with_reducible refine stop_copy rfl ?_)); first | go_values | go_skip | go_guarded | go_step | go_upon | (simp only []; go_at_K))
  ((with_reducible refine (nilFirst to w1).mono ?_); rintro e w2 ⟨rfl, rfl⟩)
  repeat' ((fail_if_success (with_reducible refine stop_append rfl ?_)); (fail_if_success (with_reducible refine stop_copy rfl ?_)); first | go_values | go_skip | go_guarded | go_step | go_upon | (simp only []; go_at_K))
  go_ret
  exact ⟨rfl, hu1⟩
end Go.Proofs.Ytdmkhmejpgjioaa
