/- (agio/cmd).fields: whether the fields of a command's kind are as they may be, and all others 0. -/
import Derived.Test.YtmnoahglajilhaaDoorCmd
namespace Go.Proofs.YtmnoahglajilhaaDoor
open Go.RowKit Agio

/-- Whether the fields of a command's kind are as they may be, and all others 0. -/
def flds (k s a p q i : Int) : Bool :=
  if k = 0 then (s == 0) && ((a == 0) && ((p == 0) && ((q == 0) && ((i == 0)))))
  else if k = 1 then wi s 1 2 && (wi p 1 1073741824 && (wi q 1 1073741824 && ((a == 0) && ((i == 0)))))
  else if k = 2 then wi s 1 2 && (wi q 1 1073741824 && ((a == 0) && ((p == 0) && ((i == 0)))))
  else if k = 3 then wi s 1 2 && (wi p 1 1073741824 && (wi q 1 1073741824 && ((a == 0) && ((i == 0)))))
  else if k = 4 then wi s 1 2 && (wi p 1 1073741824 && (wi q 1 1073741824 && ((a == 0) && ((i == 0)))))
  else if k = 5 then wi s 1 2 && (wi p 1 1073741824 && (wi q 1 1073741824 && ((a == 0) && ((i == 0)))))
  else if k = 6 then wi s 1 2 && (wi p (-1073741824) 1073741824 && (wi q 1 1073741824 && ((a == 0) && ((i == 0)))))
  else if k = 7 then wi i 1 1099511627776 && ((s == 0) && ((a == 0) && ((p == 0) && ((q == 0)))))
  else if k = 8 then wi i 1 1099511627776 && (wi p 1 1073741824 && (wi q 1 1073741824 && ((s == 0) && ((a == 0)))))
  else if k = 9 then wi a 0 1 && (wi q 1 1073741824 && ((s == 0) && ((p == 0) && ((i == 0)))))
  else if k = 10 then wi a 0 1 && (wi q 1 1073741824 && ((s == 0) && ((p == 0) && ((i == 0)))))
  else if k = 11 then wi p 1 1073741824 && ((s == 0) && ((a == 0) && ((q == 0) && ((i == 0)))))
  else false

set_option maxRecDepth 100000 in
set_option maxHeartbeats 4000000 in
theorem fields_k0 (cl sq tm s a p q i : Int) (w : World) :
    Calls Tryd.prog 37 #[.agg #[.int .i64 0, .int .i64 cl, .int .i64 sq, .int .i64 tm, .int .i64 s, .int .i64 a, .int .i64 p, .int .i64 q, .int .i64 i]] w fun e w' => e = .returned (.bool (flds 0 s a p q i)) ∧ Upd [] [] w w' := by
  have eq := eqCmd
  have F : Hid (flds 0 s a p q i = ((s == 0) && ((a == 0) && ((p == 0) && ((q == 0) && ((i == 0))))))) := rfl
  go_enter Tryd.func37, Tryd.ntmps37
  repeat' ((fail_if_success (with_reducible refine stop_append rfl ?_)); (fail_if_success (with_reducible refine stop_copy rfl ?_)); first | go_values | go_skip | go_guarded | go_step | go_upon | (simp only []; go_at_K))
  refine (cmdWithin s 1 2 _).mono ?_
  rintro e w0 ⟨rfl, rfl⟩
  generalize wi s 1 2 = b0 at *
  repeat' ((fail_if_success (with_reducible refine stop_append rfl ?_)); (fail_if_success (with_reducible refine stop_copy rfl ?_)); first | go_values | go_skip | go_guarded | go_step | go_upon | (simp only []; go_at_K))
  refine (cmdWithin a 0 1 _).mono ?_
  rintro e w1 ⟨rfl, rfl⟩
  generalize wi a 0 1 = b1 at *
  repeat' ((fail_if_success (with_reducible refine stop_append rfl ?_)); (fail_if_success (with_reducible refine stop_copy rfl ?_)); first | go_values | go_skip | go_guarded | go_step | go_upon | (simp only []; go_at_K))
  refine (cmdWithin p 1 1073741824 _).mono ?_
  rintro e w2 ⟨rfl, rfl⟩
  generalize wi p 1 1073741824 = b2 at *
  repeat' ((fail_if_success (with_reducible refine stop_append rfl ?_)); (fail_if_success (with_reducible refine stop_copy rfl ?_)); first | go_values | go_skip | go_guarded | go_step | go_upon | (simp only []; go_at_K))
  refine (cmdWithin q 1 1073741824 _).mono ?_
  rintro e w3 ⟨rfl, rfl⟩
  generalize wi q 1 1073741824 = b3 at *
  repeat' ((fail_if_success (with_reducible refine stop_append rfl ?_)); (fail_if_success (with_reducible refine stop_copy rfl ?_)); first | go_values | go_skip | go_guarded | go_step | go_upon | (simp only []; go_at_K))
  refine (cmdWithin i 1 1099511627776 _).mono ?_
  rintro e w4 ⟨rfl, rfl⟩
  generalize wi i 1 1099511627776 = b4 at *
  repeat' ((fail_if_success (with_reducible refine stop_append rfl ?_)); (fail_if_success (with_reducible refine stop_copy rfl ?_)); first | go_values | go_skip | go_guarded | go_step | go_upon | (simp only []; go_at_K))
  all_goals go_ret
  all_goals
    refine ⟨by rw [F.out]; simp [*], ?_⟩
    repeat (first | exact Upd.refl _ _ | refine Upd.setCell ?_ (.inr (by simp)) _ | refine Upd.alloc ?_ _)

set_option maxRecDepth 100000 in
set_option maxHeartbeats 4000000 in
theorem fields_k1 (cl sq tm s a p q i : Int) (w : World) :
    Calls Tryd.prog 37 #[.agg #[.int .i64 1, .int .i64 cl, .int .i64 sq, .int .i64 tm, .int .i64 s, .int .i64 a, .int .i64 p, .int .i64 q, .int .i64 i]] w fun e w' => e = .returned (.bool (flds 1 s a p q i)) ∧ Upd [] [] w w' := by
  have eq := eqCmd
  have F : Hid (flds 1 s a p q i = (wi s 1 2 && (wi p 1 1073741824 && (wi q 1 1073741824 && ((a == 0) && ((i == 0))))))) := rfl
  go_enter Tryd.func37, Tryd.ntmps37
  repeat' ((fail_if_success (with_reducible refine stop_append rfl ?_)); (fail_if_success (with_reducible refine stop_copy rfl ?_)); first | go_values | go_skip | go_guarded | go_step | go_upon | (simp only []; go_at_K))
  refine (cmdWithin s 1 2 _).mono ?_
  rintro e w0 ⟨rfl, rfl⟩
  generalize wi s 1 2 = b0 at *
  repeat' ((fail_if_success (with_reducible refine stop_append rfl ?_)); (fail_if_success (with_reducible refine stop_copy rfl ?_)); first | go_values | go_skip | go_guarded | go_step | go_upon | (simp only []; go_at_K))
  refine (cmdWithin a 0 1 _).mono ?_
  rintro e w1 ⟨rfl, rfl⟩
  generalize wi a 0 1 = b1 at *
  repeat' ((fail_if_success (with_reducible refine stop_append rfl ?_)); (fail_if_success (with_reducible refine stop_copy rfl ?_)); first | go_values | go_skip | go_guarded | go_step | go_upon | (simp only []; go_at_K))
  refine (cmdWithin p 1 1073741824 _).mono ?_
  rintro e w2 ⟨rfl, rfl⟩
  generalize wi p 1 1073741824 = b2 at *
  repeat' ((fail_if_success (with_reducible refine stop_append rfl ?_)); (fail_if_success (with_reducible refine stop_copy rfl ?_)); first | go_values | go_skip | go_guarded | go_step | go_upon | (simp only []; go_at_K))
  refine (cmdWithin q 1 1073741824 _).mono ?_
  rintro e w3 ⟨rfl, rfl⟩
  generalize wi q 1 1073741824 = b3 at *
  repeat' ((fail_if_success (with_reducible refine stop_append rfl ?_)); (fail_if_success (with_reducible refine stop_copy rfl ?_)); first | go_values | go_skip | go_guarded | go_step | go_upon | (simp only []; go_at_K))
  refine (cmdWithin i 1 1099511627776 _).mono ?_
  rintro e w4 ⟨rfl, rfl⟩
  generalize wi i 1 1099511627776 = b4 at *
  repeat' ((fail_if_success (with_reducible refine stop_append rfl ?_)); (fail_if_success (with_reducible refine stop_copy rfl ?_)); first | go_values | go_skip | go_guarded | go_step | go_upon | (simp only []; go_at_K))
  all_goals go_ret
  all_goals
    refine ⟨by rw [F.out]; simp [*], ?_⟩
    repeat (first | exact Upd.refl _ _ | refine Upd.setCell ?_ (.inr (by simp)) _ | refine Upd.alloc ?_ _)

set_option maxRecDepth 100000 in
set_option maxHeartbeats 4000000 in
theorem fields_k2 (cl sq tm s a p q i : Int) (w : World) :
    Calls Tryd.prog 37 #[.agg #[.int .i64 2, .int .i64 cl, .int .i64 sq, .int .i64 tm, .int .i64 s, .int .i64 a, .int .i64 p, .int .i64 q, .int .i64 i]] w fun e w' => e = .returned (.bool (flds 2 s a p q i)) ∧ Upd [] [] w w' := by
  have eq := eqCmd
  have F : Hid (flds 2 s a p q i = (wi s 1 2 && (wi q 1 1073741824 && ((a == 0) && ((p == 0) && ((i == 0))))))) := rfl
  go_enter Tryd.func37, Tryd.ntmps37
  repeat' ((fail_if_success (with_reducible refine stop_append rfl ?_)); (fail_if_success (with_reducible refine stop_copy rfl ?_)); first | go_values | go_skip | go_guarded | go_step | go_upon | (simp only []; go_at_K))
  refine (cmdWithin s 1 2 _).mono ?_
  rintro e w0 ⟨rfl, rfl⟩
  generalize wi s 1 2 = b0 at *
  repeat' ((fail_if_success (with_reducible refine stop_append rfl ?_)); (fail_if_success (with_reducible refine stop_copy rfl ?_)); first | go_values | go_skip | go_guarded | go_step | go_upon | (simp only []; go_at_K))
  refine (cmdWithin a 0 1 _).mono ?_
  rintro e w1 ⟨rfl, rfl⟩
  generalize wi a 0 1 = b1 at *
  repeat' ((fail_if_success (with_reducible refine stop_append rfl ?_)); (fail_if_success (with_reducible refine stop_copy rfl ?_)); first | go_values | go_skip | go_guarded | go_step | go_upon | (simp only []; go_at_K))
  refine (cmdWithin p 1 1073741824 _).mono ?_
  rintro e w2 ⟨rfl, rfl⟩
  generalize wi p 1 1073741824 = b2 at *
  repeat' ((fail_if_success (with_reducible refine stop_append rfl ?_)); (fail_if_success (with_reducible refine stop_copy rfl ?_)); first | go_values | go_skip | go_guarded | go_step | go_upon | (simp only []; go_at_K))
  refine (cmdWithin q 1 1073741824 _).mono ?_
  rintro e w3 ⟨rfl, rfl⟩
  generalize wi q 1 1073741824 = b3 at *
  repeat' ((fail_if_success (with_reducible refine stop_append rfl ?_)); (fail_if_success (with_reducible refine stop_copy rfl ?_)); first | go_values | go_skip | go_guarded | go_step | go_upon | (simp only []; go_at_K))
  refine (cmdWithin i 1 1099511627776 _).mono ?_
  rintro e w4 ⟨rfl, rfl⟩
  generalize wi i 1 1099511627776 = b4 at *
  repeat' ((fail_if_success (with_reducible refine stop_append rfl ?_)); (fail_if_success (with_reducible refine stop_copy rfl ?_)); first | go_values | go_skip | go_guarded | go_step | go_upon | (simp only []; go_at_K))
  all_goals go_ret
  all_goals
    refine ⟨by rw [F.out]; simp [*], ?_⟩
    repeat (first | exact Upd.refl _ _ | refine Upd.setCell ?_ (.inr (by simp)) _ | refine Upd.alloc ?_ _)

set_option maxRecDepth 100000 in
set_option maxHeartbeats 4000000 in
theorem fields_k3 (cl sq tm s a p q i : Int) (w : World) :
    Calls Tryd.prog 37 #[.agg #[.int .i64 3, .int .i64 cl, .int .i64 sq, .int .i64 tm, .int .i64 s, .int .i64 a, .int .i64 p, .int .i64 q, .int .i64 i]] w fun e w' => e = .returned (.bool (flds 3 s a p q i)) ∧ Upd [] [] w w' := by
  have eq := eqCmd
  have F : Hid (flds 3 s a p q i = (wi s 1 2 && (wi p 1 1073741824 && (wi q 1 1073741824 && ((a == 0) && ((i == 0))))))) := rfl
  go_enter Tryd.func37, Tryd.ntmps37
  repeat' ((fail_if_success (with_reducible refine stop_append rfl ?_)); (fail_if_success (with_reducible refine stop_copy rfl ?_)); first | go_values | go_skip | go_guarded | go_step | go_upon | (simp only []; go_at_K))
  refine (cmdWithin s 1 2 _).mono ?_
  rintro e w0 ⟨rfl, rfl⟩
  generalize wi s 1 2 = b0 at *
  repeat' ((fail_if_success (with_reducible refine stop_append rfl ?_)); (fail_if_success (with_reducible refine stop_copy rfl ?_)); first | go_values | go_skip | go_guarded | go_step | go_upon | (simp only []; go_at_K))
  refine (cmdWithin a 0 1 _).mono ?_
  rintro e w1 ⟨rfl, rfl⟩
  generalize wi a 0 1 = b1 at *
  repeat' ((fail_if_success (with_reducible refine stop_append rfl ?_)); (fail_if_success (with_reducible refine stop_copy rfl ?_)); first | go_values | go_skip | go_guarded | go_step | go_upon | (simp only []; go_at_K))
  refine (cmdWithin p 1 1073741824 _).mono ?_
  rintro e w2 ⟨rfl, rfl⟩
  generalize wi p 1 1073741824 = b2 at *
  repeat' ((fail_if_success (with_reducible refine stop_append rfl ?_)); (fail_if_success (with_reducible refine stop_copy rfl ?_)); first | go_values | go_skip | go_guarded | go_step | go_upon | (simp only []; go_at_K))
  refine (cmdWithin q 1 1073741824 _).mono ?_
  rintro e w3 ⟨rfl, rfl⟩
  generalize wi q 1 1073741824 = b3 at *
  repeat' ((fail_if_success (with_reducible refine stop_append rfl ?_)); (fail_if_success (with_reducible refine stop_copy rfl ?_)); first | go_values | go_skip | go_guarded | go_step | go_upon | (simp only []; go_at_K))
  refine (cmdWithin i 1 1099511627776 _).mono ?_
  rintro e w4 ⟨rfl, rfl⟩
  generalize wi i 1 1099511627776 = b4 at *
  repeat' ((fail_if_success (with_reducible refine stop_append rfl ?_)); (fail_if_success (with_reducible refine stop_copy rfl ?_)); first | go_values | go_skip | go_guarded | go_step | go_upon | (simp only []; go_at_K))
  all_goals go_ret
  all_goals
    refine ⟨by rw [F.out]; simp [*], ?_⟩
    repeat (first | exact Upd.refl _ _ | refine Upd.setCell ?_ (.inr (by simp)) _ | refine Upd.alloc ?_ _)

set_option maxRecDepth 100000 in
set_option maxHeartbeats 4000000 in
theorem fields_k4 (cl sq tm s a p q i : Int) (w : World) :
    Calls Tryd.prog 37 #[.agg #[.int .i64 4, .int .i64 cl, .int .i64 sq, .int .i64 tm, .int .i64 s, .int .i64 a, .int .i64 p, .int .i64 q, .int .i64 i]] w fun e w' => e = .returned (.bool (flds 4 s a p q i)) ∧ Upd [] [] w w' := by
  have eq := eqCmd
  have F : Hid (flds 4 s a p q i = (wi s 1 2 && (wi p 1 1073741824 && (wi q 1 1073741824 && ((a == 0) && ((i == 0))))))) := rfl
  go_enter Tryd.func37, Tryd.ntmps37
  repeat' ((fail_if_success (with_reducible refine stop_append rfl ?_)); (fail_if_success (with_reducible refine stop_copy rfl ?_)); first | go_values | go_skip | go_guarded | go_step | go_upon | (simp only []; go_at_K))
  refine (cmdWithin s 1 2 _).mono ?_
  rintro e w0 ⟨rfl, rfl⟩
  generalize wi s 1 2 = b0 at *
  repeat' ((fail_if_success (with_reducible refine stop_append rfl ?_)); (fail_if_success (with_reducible refine stop_copy rfl ?_)); first | go_values | go_skip | go_guarded | go_step | go_upon | (simp only []; go_at_K))
  refine (cmdWithin a 0 1 _).mono ?_
  rintro e w1 ⟨rfl, rfl⟩
  generalize wi a 0 1 = b1 at *
  repeat' ((fail_if_success (with_reducible refine stop_append rfl ?_)); (fail_if_success (with_reducible refine stop_copy rfl ?_)); first | go_values | go_skip | go_guarded | go_step | go_upon | (simp only []; go_at_K))
  refine (cmdWithin p 1 1073741824 _).mono ?_
  rintro e w2 ⟨rfl, rfl⟩
  generalize wi p 1 1073741824 = b2 at *
  repeat' ((fail_if_success (with_reducible refine stop_append rfl ?_)); (fail_if_success (with_reducible refine stop_copy rfl ?_)); first | go_values | go_skip | go_guarded | go_step | go_upon | (simp only []; go_at_K))
  refine (cmdWithin q 1 1073741824 _).mono ?_
  rintro e w3 ⟨rfl, rfl⟩
  generalize wi q 1 1073741824 = b3 at *
  repeat' ((fail_if_success (with_reducible refine stop_append rfl ?_)); (fail_if_success (with_reducible refine stop_copy rfl ?_)); first | go_values | go_skip | go_guarded | go_step | go_upon | (simp only []; go_at_K))
  refine (cmdWithin i 1 1099511627776 _).mono ?_
  rintro e w4 ⟨rfl, rfl⟩
  generalize wi i 1 1099511627776 = b4 at *
  repeat' ((fail_if_success (with_reducible refine stop_append rfl ?_)); (fail_if_success (with_reducible refine stop_copy rfl ?_)); first | go_values | go_skip | go_guarded | go_step | go_upon | (simp only []; go_at_K))
  all_goals go_ret
  all_goals
    refine ⟨by rw [F.out]; simp [*], ?_⟩
    repeat (first | exact Upd.refl _ _ | refine Upd.setCell ?_ (.inr (by simp)) _ | refine Upd.alloc ?_ _)

set_option maxRecDepth 100000 in
set_option maxHeartbeats 4000000 in
theorem fields_k5 (cl sq tm s a p q i : Int) (w : World) :
    Calls Tryd.prog 37 #[.agg #[.int .i64 5, .int .i64 cl, .int .i64 sq, .int .i64 tm, .int .i64 s, .int .i64 a, .int .i64 p, .int .i64 q, .int .i64 i]] w fun e w' => e = .returned (.bool (flds 5 s a p q i)) ∧ Upd [] [] w w' := by
  have eq := eqCmd
  have F : Hid (flds 5 s a p q i = (wi s 1 2 && (wi p 1 1073741824 && (wi q 1 1073741824 && ((a == 0) && ((i == 0))))))) := rfl
  go_enter Tryd.func37, Tryd.ntmps37
  repeat' ((fail_if_success (with_reducible refine stop_append rfl ?_)); (fail_if_success (with_reducible refine stop_copy rfl ?_)); first | go_values | go_skip | go_guarded | go_step | go_upon | (simp only []; go_at_K))
  refine (cmdWithin s 1 2 _).mono ?_
  rintro e w0 ⟨rfl, rfl⟩
  generalize wi s 1 2 = b0 at *
  repeat' ((fail_if_success (with_reducible refine stop_append rfl ?_)); (fail_if_success (with_reducible refine stop_copy rfl ?_)); first | go_values | go_skip | go_guarded | go_step | go_upon | (simp only []; go_at_K))
  refine (cmdWithin a 0 1 _).mono ?_
  rintro e w1 ⟨rfl, rfl⟩
  generalize wi a 0 1 = b1 at *
  repeat' ((fail_if_success (with_reducible refine stop_append rfl ?_)); (fail_if_success (with_reducible refine stop_copy rfl ?_)); first | go_values | go_skip | go_guarded | go_step | go_upon | (simp only []; go_at_K))
  refine (cmdWithin p 1 1073741824 _).mono ?_
  rintro e w2 ⟨rfl, rfl⟩
  generalize wi p 1 1073741824 = b2 at *
  repeat' ((fail_if_success (with_reducible refine stop_append rfl ?_)); (fail_if_success (with_reducible refine stop_copy rfl ?_)); first | go_values | go_skip | go_guarded | go_step | go_upon | (simp only []; go_at_K))
  refine (cmdWithin q 1 1073741824 _).mono ?_
  rintro e w3 ⟨rfl, rfl⟩
  generalize wi q 1 1073741824 = b3 at *
  repeat' ((fail_if_success (with_reducible refine stop_append rfl ?_)); (fail_if_success (with_reducible refine stop_copy rfl ?_)); first | go_values | go_skip | go_guarded | go_step | go_upon | (simp only []; go_at_K))
  refine (cmdWithin i 1 1099511627776 _).mono ?_
  rintro e w4 ⟨rfl, rfl⟩
  generalize wi i 1 1099511627776 = b4 at *
  repeat' ((fail_if_success (with_reducible refine stop_append rfl ?_)); (fail_if_success (with_reducible refine stop_copy rfl ?_)); first | go_values | go_skip | go_guarded | go_step | go_upon | (simp only []; go_at_K))
  all_goals go_ret
  all_goals
    refine ⟨by rw [F.out]; simp [*], ?_⟩
    repeat (first | exact Upd.refl _ _ | refine Upd.setCell ?_ (.inr (by simp)) _ | refine Upd.alloc ?_ _)

set_option maxRecDepth 100000 in
set_option maxHeartbeats 4000000 in
theorem fields_k6 (cl sq tm s a p q i : Int) (w : World) :
    Calls Tryd.prog 37 #[.agg #[.int .i64 6, .int .i64 cl, .int .i64 sq, .int .i64 tm, .int .i64 s, .int .i64 a, .int .i64 p, .int .i64 q, .int .i64 i]] w fun e w' => e = .returned (.bool (flds 6 s a p q i)) ∧ Upd [] [] w w' := by
  have eq := eqCmd
  have F : Hid (flds 6 s a p q i = (wi s 1 2 && (wi p (-1073741824) 1073741824 && (wi q 1 1073741824 && ((a == 0) && ((i == 0))))))) := rfl
  go_enter Tryd.func37, Tryd.ntmps37
  repeat' ((fail_if_success (with_reducible refine stop_append rfl ?_)); (fail_if_success (with_reducible refine stop_copy rfl ?_)); first | go_values | go_skip | go_guarded | go_step | go_upon | (simp only []; go_at_K))
  refine (cmdWithin s 1 2 _).mono ?_
  rintro e w0 ⟨rfl, rfl⟩
  generalize wi s 1 2 = b0 at *
  repeat' ((fail_if_success (with_reducible refine stop_append rfl ?_)); (fail_if_success (with_reducible refine stop_copy rfl ?_)); first | go_values | go_skip | go_guarded | go_step | go_upon | (simp only []; go_at_K))
  refine (cmdWithin a 0 1 _).mono ?_
  rintro e w1 ⟨rfl, rfl⟩
  generalize wi a 0 1 = b1 at *
  repeat' ((fail_if_success (with_reducible refine stop_append rfl ?_)); (fail_if_success (with_reducible refine stop_copy rfl ?_)); first | go_values | go_skip | go_guarded | go_step | go_upon | (simp only []; go_at_K))
  refine (cmdWithin p 1 1073741824 _).mono ?_
  rintro e w2 ⟨rfl, rfl⟩
  generalize wi p 1 1073741824 = b2 at *
  repeat' ((fail_if_success (with_reducible refine stop_append rfl ?_)); (fail_if_success (with_reducible refine stop_copy rfl ?_)); first | go_values | go_skip | go_guarded | go_step | go_upon | (simp only []; go_at_K))
  refine (cmdWithin q 1 1073741824 _).mono ?_
  rintro e w3 ⟨rfl, rfl⟩
  generalize wi q 1 1073741824 = b3 at *
  repeat' ((fail_if_success (with_reducible refine stop_append rfl ?_)); (fail_if_success (with_reducible refine stop_copy rfl ?_)); first | go_values | go_skip | go_guarded | go_step | go_upon | (simp only []; go_at_K))
  refine (cmdWithin i 1 1099511627776 _).mono ?_
  rintro e w4 ⟨rfl, rfl⟩
  generalize wi i 1 1099511627776 = b4 at *
  repeat' ((fail_if_success (with_reducible refine stop_append rfl ?_)); (fail_if_success (with_reducible refine stop_copy rfl ?_)); first | go_values | go_skip | go_guarded | go_step | go_upon | (simp only []; go_at_K))
  all_goals try (refine (cmdWithin p (-1073741824) 1073741824 _).mono ?_; rintro e w5 ⟨rfl, rfl⟩; generalize wi p (-1073741824) 1073741824 = b5 at *; repeat' ((fail_if_success (with_reducible refine stop_append rfl ?_)); (fail_if_success (with_reducible refine stop_copy rfl ?_)); first | go_values | go_skip | go_guarded | go_step | go_upon | (simp only []; go_at_K)))
  all_goals go_ret
  all_goals
    refine ⟨by rw [F.out]; simp [*], ?_⟩
    repeat (first | exact Upd.refl _ _ | refine Upd.setCell ?_ (.inr (by simp)) _ | refine Upd.alloc ?_ _)

set_option maxRecDepth 100000 in
set_option maxHeartbeats 4000000 in
theorem fields_k7 (cl sq tm s a p q i : Int) (w : World) :
    Calls Tryd.prog 37 #[.agg #[.int .i64 7, .int .i64 cl, .int .i64 sq, .int .i64 tm, .int .i64 s, .int .i64 a, .int .i64 p, .int .i64 q, .int .i64 i]] w fun e w' => e = .returned (.bool (flds 7 s a p q i)) ∧ Upd [] [] w w' := by
  have eq := eqCmd
  have F : Hid (flds 7 s a p q i = (wi i 1 1099511627776 && ((s == 0) && ((a == 0) && ((p == 0) && ((q == 0))))))) := rfl
  go_enter Tryd.func37, Tryd.ntmps37
  repeat' ((fail_if_success (with_reducible refine stop_append rfl ?_)); (fail_if_success (with_reducible refine stop_copy rfl ?_)); first | go_values | go_skip | go_guarded | go_step | go_upon | (simp only []; go_at_K))
  refine (cmdWithin s 1 2 _).mono ?_
  rintro e w0 ⟨rfl, rfl⟩
  generalize wi s 1 2 = b0 at *
  repeat' ((fail_if_success (with_reducible refine stop_append rfl ?_)); (fail_if_success (with_reducible refine stop_copy rfl ?_)); first | go_values | go_skip | go_guarded | go_step | go_upon | (simp only []; go_at_K))
  refine (cmdWithin a 0 1 _).mono ?_
  rintro e w1 ⟨rfl, rfl⟩
  generalize wi a 0 1 = b1 at *
  repeat' ((fail_if_success (with_reducible refine stop_append rfl ?_)); (fail_if_success (with_reducible refine stop_copy rfl ?_)); first | go_values | go_skip | go_guarded | go_step | go_upon | (simp only []; go_at_K))
  refine (cmdWithin p 1 1073741824 _).mono ?_
  rintro e w2 ⟨rfl, rfl⟩
  generalize wi p 1 1073741824 = b2 at *
  repeat' ((fail_if_success (with_reducible refine stop_append rfl ?_)); (fail_if_success (with_reducible refine stop_copy rfl ?_)); first | go_values | go_skip | go_guarded | go_step | go_upon | (simp only []; go_at_K))
  refine (cmdWithin q 1 1073741824 _).mono ?_
  rintro e w3 ⟨rfl, rfl⟩
  generalize wi q 1 1073741824 = b3 at *
  repeat' ((fail_if_success (with_reducible refine stop_append rfl ?_)); (fail_if_success (with_reducible refine stop_copy rfl ?_)); first | go_values | go_skip | go_guarded | go_step | go_upon | (simp only []; go_at_K))
  refine (cmdWithin i 1 1099511627776 _).mono ?_
  rintro e w4 ⟨rfl, rfl⟩
  generalize wi i 1 1099511627776 = b4 at *
  repeat' ((fail_if_success (with_reducible refine stop_append rfl ?_)); (fail_if_success (with_reducible refine stop_copy rfl ?_)); first | go_values | go_skip | go_guarded | go_step | go_upon | (simp only []; go_at_K))
  all_goals go_ret
  all_goals
    refine ⟨by rw [F.out]; simp [*], ?_⟩
    repeat (first | exact Upd.refl _ _ | refine Upd.setCell ?_ (.inr (by simp)) _ | refine Upd.alloc ?_ _)

set_option maxRecDepth 100000 in
set_option maxHeartbeats 4000000 in
theorem fields_k8 (cl sq tm s a p q i : Int) (w : World) :
    Calls Tryd.prog 37 #[.agg #[.int .i64 8, .int .i64 cl, .int .i64 sq, .int .i64 tm, .int .i64 s, .int .i64 a, .int .i64 p, .int .i64 q, .int .i64 i]] w fun e w' => e = .returned (.bool (flds 8 s a p q i)) ∧ Upd [] [] w w' := by
  have eq := eqCmd
  have F : Hid (flds 8 s a p q i = (wi i 1 1099511627776 && (wi p 1 1073741824 && (wi q 1 1073741824 && ((s == 0) && ((a == 0))))))) := rfl
  go_enter Tryd.func37, Tryd.ntmps37
  repeat' ((fail_if_success (with_reducible refine stop_append rfl ?_)); (fail_if_success (with_reducible refine stop_copy rfl ?_)); first | go_values | go_skip | go_guarded | go_step | go_upon | (simp only []; go_at_K))
  refine (cmdWithin s 1 2 _).mono ?_
  rintro e w0 ⟨rfl, rfl⟩
  generalize wi s 1 2 = b0 at *
  repeat' ((fail_if_success (with_reducible refine stop_append rfl ?_)); (fail_if_success (with_reducible refine stop_copy rfl ?_)); first | go_values | go_skip | go_guarded | go_step | go_upon | (simp only []; go_at_K))
  refine (cmdWithin a 0 1 _).mono ?_
  rintro e w1 ⟨rfl, rfl⟩
  generalize wi a 0 1 = b1 at *
  repeat' ((fail_if_success (with_reducible refine stop_append rfl ?_)); (fail_if_success (with_reducible refine stop_copy rfl ?_)); first | go_values | go_skip | go_guarded | go_step | go_upon | (simp only []; go_at_K))
  refine (cmdWithin p 1 1073741824 _).mono ?_
  rintro e w2 ⟨rfl, rfl⟩
  generalize wi p 1 1073741824 = b2 at *
  repeat' ((fail_if_success (with_reducible refine stop_append rfl ?_)); (fail_if_success (with_reducible refine stop_copy rfl ?_)); first | go_values | go_skip | go_guarded | go_step | go_upon | (simp only []; go_at_K))
  refine (cmdWithin q 1 1073741824 _).mono ?_
  rintro e w3 ⟨rfl, rfl⟩
  generalize wi q 1 1073741824 = b3 at *
  repeat' ((fail_if_success (with_reducible refine stop_append rfl ?_)); (fail_if_success (with_reducible refine stop_copy rfl ?_)); first | go_values | go_skip | go_guarded | go_step | go_upon | (simp only []; go_at_K))
  refine (cmdWithin i 1 1099511627776 _).mono ?_
  rintro e w4 ⟨rfl, rfl⟩
  generalize wi i 1 1099511627776 = b4 at *
  repeat' ((fail_if_success (with_reducible refine stop_append rfl ?_)); (fail_if_success (with_reducible refine stop_copy rfl ?_)); first | go_values | go_skip | go_guarded | go_step | go_upon | (simp only []; go_at_K))
  all_goals go_ret
  all_goals
    refine ⟨by rw [F.out]; simp [*], ?_⟩
    repeat (first | exact Upd.refl _ _ | refine Upd.setCell ?_ (.inr (by simp)) _ | refine Upd.alloc ?_ _)

set_option maxRecDepth 100000 in
set_option maxHeartbeats 4000000 in
theorem fields_k9 (cl sq tm s a p q i : Int) (w : World) :
    Calls Tryd.prog 37 #[.agg #[.int .i64 9, .int .i64 cl, .int .i64 sq, .int .i64 tm, .int .i64 s, .int .i64 a, .int .i64 p, .int .i64 q, .int .i64 i]] w fun e w' => e = .returned (.bool (flds 9 s a p q i)) ∧ Upd [] [] w w' := by
  have eq := eqCmd
  have F : Hid (flds 9 s a p q i = (wi a 0 1 && (wi q 1 1073741824 && ((s == 0) && ((p == 0) && ((i == 0))))))) := rfl
  go_enter Tryd.func37, Tryd.ntmps37
  repeat' ((fail_if_success (with_reducible refine stop_append rfl ?_)); (fail_if_success (with_reducible refine stop_copy rfl ?_)); first | go_values | go_skip | go_guarded | go_step | go_upon | (simp only []; go_at_K))
  refine (cmdWithin s 1 2 _).mono ?_
  rintro e w0 ⟨rfl, rfl⟩
  generalize wi s 1 2 = b0 at *
  repeat' ((fail_if_success (with_reducible refine stop_append rfl ?_)); (fail_if_success (with_reducible refine stop_copy rfl ?_)); first | go_values | go_skip | go_guarded | go_step | go_upon | (simp only []; go_at_K))
  refine (cmdWithin a 0 1 _).mono ?_
  rintro e w1 ⟨rfl, rfl⟩
  generalize wi a 0 1 = b1 at *
  repeat' ((fail_if_success (with_reducible refine stop_append rfl ?_)); (fail_if_success (with_reducible refine stop_copy rfl ?_)); first | go_values | go_skip | go_guarded | go_step | go_upon | (simp only []; go_at_K))
  refine (cmdWithin p 1 1073741824 _).mono ?_
  rintro e w2 ⟨rfl, rfl⟩
  generalize wi p 1 1073741824 = b2 at *
  repeat' ((fail_if_success (with_reducible refine stop_append rfl ?_)); (fail_if_success (with_reducible refine stop_copy rfl ?_)); first | go_values | go_skip | go_guarded | go_step | go_upon | (simp only []; go_at_K))
  refine (cmdWithin q 1 1073741824 _).mono ?_
  rintro e w3 ⟨rfl, rfl⟩
  generalize wi q 1 1073741824 = b3 at *
  repeat' ((fail_if_success (with_reducible refine stop_append rfl ?_)); (fail_if_success (with_reducible refine stop_copy rfl ?_)); first | go_values | go_skip | go_guarded | go_step | go_upon | (simp only []; go_at_K))
  refine (cmdWithin i 1 1099511627776 _).mono ?_
  rintro e w4 ⟨rfl, rfl⟩
  generalize wi i 1 1099511627776 = b4 at *
  repeat' ((fail_if_success (with_reducible refine stop_append rfl ?_)); (fail_if_success (with_reducible refine stop_copy rfl ?_)); first | go_values | go_skip | go_guarded | go_step | go_upon | (simp only []; go_at_K))
  all_goals go_ret
  all_goals
    refine ⟨by rw [F.out]; simp [*], ?_⟩
    repeat (first | exact Upd.refl _ _ | refine Upd.setCell ?_ (.inr (by simp)) _ | refine Upd.alloc ?_ _)

set_option maxRecDepth 100000 in
set_option maxHeartbeats 4000000 in
theorem fields_k10 (cl sq tm s a p q i : Int) (w : World) :
    Calls Tryd.prog 37 #[.agg #[.int .i64 10, .int .i64 cl, .int .i64 sq, .int .i64 tm, .int .i64 s, .int .i64 a, .int .i64 p, .int .i64 q, .int .i64 i]] w fun e w' => e = .returned (.bool (flds 10 s a p q i)) ∧ Upd [] [] w w' := by
  have eq := eqCmd
  have F : Hid (flds 10 s a p q i = (wi a 0 1 && (wi q 1 1073741824 && ((s == 0) && ((p == 0) && ((i == 0))))))) := rfl
  go_enter Tryd.func37, Tryd.ntmps37
  repeat' ((fail_if_success (with_reducible refine stop_append rfl ?_)); (fail_if_success (with_reducible refine stop_copy rfl ?_)); first | go_values | go_skip | go_guarded | go_step | go_upon | (simp only []; go_at_K))
  refine (cmdWithin s 1 2 _).mono ?_
  rintro e w0 ⟨rfl, rfl⟩
  generalize wi s 1 2 = b0 at *
  repeat' ((fail_if_success (with_reducible refine stop_append rfl ?_)); (fail_if_success (with_reducible refine stop_copy rfl ?_)); first | go_values | go_skip | go_guarded | go_step | go_upon | (simp only []; go_at_K))
  refine (cmdWithin a 0 1 _).mono ?_
  rintro e w1 ⟨rfl, rfl⟩
  generalize wi a 0 1 = b1 at *
  repeat' ((fail_if_success (with_reducible refine stop_append rfl ?_)); (fail_if_success (with_reducible refine stop_copy rfl ?_)); first | go_values | go_skip | go_guarded | go_step | go_upon | (simp only []; go_at_K))
  refine (cmdWithin p 1 1073741824 _).mono ?_
  rintro e w2 ⟨rfl, rfl⟩
  generalize wi p 1 1073741824 = b2 at *
  repeat' ((fail_if_success (with_reducible refine stop_append rfl ?_)); (fail_if_success (with_reducible refine stop_copy rfl ?_)); first | go_values | go_skip | go_guarded | go_step | go_upon | (simp only []; go_at_K))
  refine (cmdWithin q 1 1073741824 _).mono ?_
  rintro e w3 ⟨rfl, rfl⟩
  generalize wi q 1 1073741824 = b3 at *
  repeat' ((fail_if_success (with_reducible refine stop_append rfl ?_)); (fail_if_success (with_reducible refine stop_copy rfl ?_)); first | go_values | go_skip | go_guarded | go_step | go_upon | (simp only []; go_at_K))
  refine (cmdWithin i 1 1099511627776 _).mono ?_
  rintro e w4 ⟨rfl, rfl⟩
  generalize wi i 1 1099511627776 = b4 at *
  repeat' ((fail_if_success (with_reducible refine stop_append rfl ?_)); (fail_if_success (with_reducible refine stop_copy rfl ?_)); first | go_values | go_skip | go_guarded | go_step | go_upon | (simp only []; go_at_K))
  all_goals go_ret
  all_goals
    refine ⟨by rw [F.out]; simp [*], ?_⟩
    repeat (first | exact Upd.refl _ _ | refine Upd.setCell ?_ (.inr (by simp)) _ | refine Upd.alloc ?_ _)

set_option maxRecDepth 100000 in
set_option maxHeartbeats 4000000 in
theorem fields_k11 (cl sq tm s a p q i : Int) (w : World) :
    Calls Tryd.prog 37 #[.agg #[.int .i64 11, .int .i64 cl, .int .i64 sq, .int .i64 tm, .int .i64 s, .int .i64 a, .int .i64 p, .int .i64 q, .int .i64 i]] w fun e w' => e = .returned (.bool (flds 11 s a p q i)) ∧ Upd [] [] w w' := by
  have eq := eqCmd
  have F : Hid (flds 11 s a p q i = (wi p 1 1073741824 && ((s == 0) && ((a == 0) && ((q == 0) && ((i == 0))))))) := rfl
  go_enter Tryd.func37, Tryd.ntmps37
  repeat' ((fail_if_success (with_reducible refine stop_append rfl ?_)); (fail_if_success (with_reducible refine stop_copy rfl ?_)); first | go_values | go_skip | go_guarded | go_step | go_upon | (simp only []; go_at_K))
  refine (cmdWithin s 1 2 _).mono ?_
  rintro e w0 ⟨rfl, rfl⟩
  generalize wi s 1 2 = b0 at *
  repeat' ((fail_if_success (with_reducible refine stop_append rfl ?_)); (fail_if_success (with_reducible refine stop_copy rfl ?_)); first | go_values | go_skip | go_guarded | go_step | go_upon | (simp only []; go_at_K))
  refine (cmdWithin a 0 1 _).mono ?_
  rintro e w1 ⟨rfl, rfl⟩
  generalize wi a 0 1 = b1 at *
  repeat' ((fail_if_success (with_reducible refine stop_append rfl ?_)); (fail_if_success (with_reducible refine stop_copy rfl ?_)); first | go_values | go_skip | go_guarded | go_step | go_upon | (simp only []; go_at_K))
  refine (cmdWithin p 1 1073741824 _).mono ?_
  rintro e w2 ⟨rfl, rfl⟩
  generalize wi p 1 1073741824 = b2 at *
  repeat' ((fail_if_success (with_reducible refine stop_append rfl ?_)); (fail_if_success (with_reducible refine stop_copy rfl ?_)); first | go_values | go_skip | go_guarded | go_step | go_upon | (simp only []; go_at_K))
  refine (cmdWithin q 1 1073741824 _).mono ?_
  rintro e w3 ⟨rfl, rfl⟩
  generalize wi q 1 1073741824 = b3 at *
  repeat' ((fail_if_success (with_reducible refine stop_append rfl ?_)); (fail_if_success (with_reducible refine stop_copy rfl ?_)); first | go_values | go_skip | go_guarded | go_step | go_upon | (simp only []; go_at_K))
  refine (cmdWithin i 1 1099511627776 _).mono ?_
  rintro e w4 ⟨rfl, rfl⟩
  generalize wi i 1 1099511627776 = b4 at *
  repeat' ((fail_if_success (with_reducible refine stop_append rfl ?_)); (fail_if_success (with_reducible refine stop_copy rfl ?_)); first | go_values | go_skip | go_guarded | go_step | go_upon | (simp only []; go_at_K))
  all_goals go_ret
  all_goals
    refine ⟨by rw [F.out]; simp [*], ?_⟩
    repeat (first | exact Upd.refl _ _ | refine Upd.setCell ?_ (.inr (by simp)) _ | refine Upd.alloc ?_ _)

set_option maxRecDepth 100000 in
set_option maxHeartbeats 4000000 in
theorem fields_other (k : Int) (hk : k < 0 ∨ 11 < k) (cl sq tm s a p q i : Int) (w : World) :
    Calls Tryd.prog 37 #[.agg #[.int .i64 k, .int .i64 cl, .int .i64 sq, .int .i64 tm, .int .i64 s, .int .i64 a, .int .i64 p, .int .i64 q, .int .i64 i]] w fun e w' => e = .returned (.bool (flds k s a p q i)) ∧ Upd [] [] w w' := by
  have eq := eqCmd
  have F : Hid (flds k s a p q i = false) := by unfold flds Hid; simp only [show ¬ k = 0 by omega, show ¬ k = 1 by omega, show ¬ k = 2 by omega, show ¬ k = 3 by omega, show ¬ k = 4 by omega, show ¬ k = 5 by omega, show ¬ k = 6 by omega, show ¬ k = 7 by omega, show ¬ k = 8 by omega, show ¬ k = 9 by omega, show ¬ k = 10 by omega, show ¬ k = 11 by omega, if_false]
  have h0 : (k == 0) = false := by simp; omega
  have h1 : (k == 1) = false := by simp; omega
  have h2 : (k == 2) = false := by simp; omega
  have h3 : (k == 3) = false := by simp; omega
  have h4 : (k == 4) = false := by simp; omega
  have h5 : (k == 5) = false := by simp; omega
  have h6 : (k == 6) = false := by simp; omega
  have h7 : (k == 7) = false := by simp; omega
  have h8 : (k == 8) = false := by simp; omega
  have h9 : (k == 9) = false := by simp; omega
  have h10 : (k == 10) = false := by simp; omega
  have h11 : (k == 11) = false := by simp; omega
  clear hk
  go_enter Tryd.func37, Tryd.ntmps37
  repeat' ((fail_if_success (with_reducible refine stop_append rfl ?_)); (fail_if_success (with_reducible refine stop_copy rfl ?_)); first | go_values | go_skip | go_guarded | go_step | go_upon | (simp only []; go_at_K))
  refine (cmdWithin s 1 2 _).mono ?_
  rintro e w0 ⟨rfl, rfl⟩
  generalize wi s 1 2 = b0 at *
  repeat' ((fail_if_success (with_reducible refine stop_append rfl ?_)); (fail_if_success (with_reducible refine stop_copy rfl ?_)); first | go_values | go_skip | go_guarded | go_step | go_upon | (simp only []; go_at_K))
  refine (cmdWithin a 0 1 _).mono ?_
  rintro e w1 ⟨rfl, rfl⟩
  generalize wi a 0 1 = b1 at *
  repeat' ((fail_if_success (with_reducible refine stop_append rfl ?_)); (fail_if_success (with_reducible refine stop_copy rfl ?_)); first | go_values | go_skip | go_guarded | go_step | go_upon | (simp only []; go_at_K))
  refine (cmdWithin p 1 1073741824 _).mono ?_
  rintro e w2 ⟨rfl, rfl⟩
  generalize wi p 1 1073741824 = b2 at *
  repeat' ((fail_if_success (with_reducible refine stop_append rfl ?_)); (fail_if_success (with_reducible refine stop_copy rfl ?_)); first | go_values | go_skip | go_guarded | go_step | go_upon | (simp only []; go_at_K))
  refine (cmdWithin q 1 1073741824 _).mono ?_
  rintro e w3 ⟨rfl, rfl⟩
  generalize wi q 1 1073741824 = b3 at *
  repeat' ((fail_if_success (with_reducible refine stop_append rfl ?_)); (fail_if_success (with_reducible refine stop_copy rfl ?_)); first | go_values | go_skip | go_guarded | go_step | go_upon | (simp only []; go_at_K))
  refine (cmdWithin i 1 1099511627776 _).mono ?_
  rintro e w4 ⟨rfl, rfl⟩
  generalize wi i 1 1099511627776 = b4 at *
  repeat' ((fail_if_success (with_reducible refine stop_append rfl ?_)); (fail_if_success (with_reducible refine stop_copy rfl ?_)); first | go_values | go_skip | go_guarded | go_step | go_upon | (simp only []; go_at_K))
  all_goals go_ret
  all_goals
    refine ⟨by rw [F.out]; simp [*], ?_⟩
    repeat (first | exact Upd.refl _ _ | refine Upd.setCell ?_ (.inr (by simp)) _ | refine Upd.alloc ?_ _)

end Go.Proofs.YtmnoahglajilhaaDoor
