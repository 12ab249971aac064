/- Commands: agioref05.May, where a kind uses the fields 0. -/
import Derived.Test.YtmnoahglajilhaaDoorRef05b
import Derived.Deep.Cut
set_option linter.all false
namespace Go.Proofs.YtmnoahglajilhaaDoor
open Go.RowKit Agio

set_option maxRecDepth 100000 in
set_option maxHeartbeats 16000000 in
theorem ref05May_p0 (c : Cm) (h1 : uS c.k = true) (h2 : uA c.k = false) (h3 : uP c.k = true) (h4 : uQ c.k = true) (h5 : uI c.k = false) (w : World) :
    Calls Tryd.prog 12 #[c.val] w fun e w' => e = .returned (.int .i64 c.err) ∧ Upd [] [] w w' := by
  have E : Hid (∀ b, mayR c = b → c.err = if b then 0 else 1) := fun b h => Cm.err_of (by rw [← mayR_eq]; exact h)
  obtain ⟨k, cl, sq, tm, s, a, p, q, i⟩ := c
  unfold mayR at E
  simp only at E h1 h2 h3 h4 h5
  rw [h1, h2, h3, h4, h5] at E
  have CU := ref05Uses k
  rw [uses_of h1 h2 h3 h4 h5] at CU
  clear h1 h2 h3 h4 h5
  obtain ⟨lo, hlo⟩ : ∃ lo, (if k = 6 then (-1073741824 : Int) else 1) = lo := ⟨_, rfl⟩
  rw [hlo] at E
  obtain ⟨V, hV⟩ : ∃ V : Int, V = Cm.err ⟨k, cl, sq, tm, s, a, p, q, i⟩ := ⟨_, rfl⟩
  rw [← hV] at E ⊢
  clear hV
  have hX := Blk.new w 23 #[.int .i64 k, .int .i64 cl, .int .i64 sq, .int .i64 tm, .int .i64 s, .int .i64 a, .int .i64 p, .int .i64 q, .int .i64 i]
  have U0 := (Upd.refl [] w).alloc (.cells #[.int .i64 k, .int .i64 cl, .int .i64 sq, .int .i64 tm, .int .i64 s, .int .i64 a, .int .i64 p, .int .i64 q, .int .i64 i] 23)
  simp only [Cm.val]
  go_enter Tryd.func12, Tryd.ntmps12
  repeat' ((fail_if_success (with_reducible refine stop_append rfl ?_)); (fail_if_success (with_reducible refine stop_copy rfl ?_)); first | go_values | go_skip | go_guarded | go_step | go_upon | (simp only []; go_at_K))
  refine (ref05Within k 0 11 _).mono ?_
  rintro e w1 ⟨rfl, rfl⟩
  generalize wi k 0 11 = b1 at *
  cases b1
  · have E1 : Hid (V = 1) := E.out false (by simp)
    repeat' ((fail_if_success (with_reducible refine stop_append rfl ?_)); (fail_if_success (with_reducible refine stop_copy rfl ?_)); first | go_values | go_skip | go_guarded | go_step | go_upon | (simp only []; go_at_K))
    go_ret
    exact ⟨by rw [E1.out]; rfl, U0⟩
  repeat' ((fail_if_success (with_reducible refine stop_append rfl ?_)); (fail_if_success (with_reducible refine stop_copy rfl ?_)); first | go_values | go_skip | go_guarded | go_step | go_upon | (simp only []; go_at_K))
  refine (ref05Within cl 1 64 _).mono ?_
  rintro e w1 ⟨rfl, rfl⟩
  generalize wi cl 1 64 = b2 at *
  cases b2
  · have E1 : Hid (V = 1) := E.out false (by simp)
    repeat' ((fail_if_success (with_reducible refine stop_append rfl ?_)); (fail_if_success (with_reducible refine stop_copy rfl ?_)); first | go_values | go_skip | go_guarded | go_step | go_upon | (simp only []; go_at_K))
    go_ret
    exact ⟨by rw [E1.out]; rfl, U0⟩
  repeat' ((fail_if_success (with_reducible refine stop_append rfl ?_)); (fail_if_success (with_reducible refine stop_copy rfl ?_)); first | go_values | go_skip | go_guarded | go_step | go_upon | (simp only []; go_at_K))
  refine (ref05Within sq 1 1099511627776 _).mono ?_
  rintro e w1 ⟨rfl, rfl⟩
  generalize wi sq 1 1099511627776 = b3 at *
  cases b3
  · have E1 : Hid (V = 1) := E.out false (by simp)
    repeat' ((fail_if_success (with_reducible refine stop_append rfl ?_)); (fail_if_success (with_reducible refine stop_copy rfl ?_)); first | go_values | go_skip | go_guarded | go_step | go_upon | (simp only []; go_at_K))
    go_ret
    exact ⟨by rw [E1.out]; rfl, U0⟩
  repeat' ((fail_if_success (with_reducible refine stop_append rfl ?_)); (fail_if_success (with_reducible refine stop_copy rfl ?_)); first | go_values | go_skip | go_guarded | go_step | go_upon | (simp only []; go_at_K))
  refine (ref05Within tm 0 1099511627776 _).mono ?_
  rintro e w1 ⟨rfl, rfl⟩
  generalize wi tm 0 1099511627776 = b4 at *
  cases b4
  · have E1 : Hid (V = 1) := E.out false (by simp)
    repeat' ((fail_if_success (with_reducible refine stop_append rfl ?_)); (fail_if_success (with_reducible refine stop_copy rfl ?_)); first | go_values | go_skip | go_guarded | go_step | go_upon | (simp only []; go_at_K))
    go_ret
    exact ⟨by rw [E1.out]; rfl, U0⟩
  repeat' ((fail_if_success (with_reducible refine stop_append rfl ?_)); (fail_if_success (with_reducible refine stop_copy rfl ?_)); first | go_values | go_skip | go_guarded | go_step | go_upon | (simp only []; go_at_K))
  refine (CU _).mono ?_
  rintro e w2 ⟨rfl, hu2⟩
  have hX2 := hX.upd hu2 (by simp)
  have U2 := U0.trans hu2
  clear CU hX U0 hu2
  have hX3 := hX2.alloc (.cells #[.bool true, .bool false, .bool true, .bool true, .bool false] 88)
  have hB3 := Blk.new w2 88 #[.bool true, .bool false, .bool true, .bool true, .bool false]
  have U3 := U2.alloc (.cells #[.bool true, .bool false, .bool true, .bool true, .bool false] 88)
  obtain ⟨⟨q0, q1, q2, q3, q4, q5, q6, q7, q8⟩, -⟩ := hX3.c9
  obtain ⟨⟨b0, b1, b2, b3, b4⟩, -⟩ := hB3.c5
  clear hX2 U2 hX3 hB3
  go_upto_if 33 with fail
  generalize w2.alloc (.cells #[.bool true, .bool false, .bool true, .bool true, .bool false] 88) = w3 at *
  generalize w2.heap.size = gB at *
  generalize w.heap.size = gX at *
  go_cut [4] from 6 (fun s4 wc => s4 = .int .i64 lo ∧ wc = w3)
  case first =>
    by_cases h6 : k = 6
    · have hk : (k == 6) = true := by rw [h6]; rfl
      have hl : lo = -1073741824 := by rw [← hlo, if_pos h6]
      clear hlo E
      repeat' ((fail_if_success (with_reducible refine stop_append rfl ?_)); (fail_if_success (with_reducible refine stop_copy rfl ?_)); first | go_values | go_skip | go_guarded | go_step | go_upon | (simp only []; go_at_K))
      go_meet
      case rel => exact ⟨by rw [hl], rfl⟩
    · have hk : (k == 6) = false := beq_false_of_ne h6
      have hl : lo = 1 := by rw [← hlo, if_neg h6]
      clear hlo E
      repeat' ((fail_if_success (with_reducible refine stop_append rfl ?_)); (fail_if_success (with_reducible refine stop_copy rfl ?_)); first | go_values | go_skip | go_guarded | go_step | go_upon | (simp only []; go_at_K))
      go_meet
      case rel => exact ⟨by rw [hl], rfl⟩
  case rest =>
    obtain ⟨rfl, rfl⟩ := hcut
    clear hlo
    go_upto_region 7 with fail
    go_cut [0, 5] from 6 (fun _ s5 wd => s5 = .bool ((s == 0 || true) && (a == 0 || false) && (p == 0 || true) && (q == 0 || true) && (i == 0 || false)) ∧ wd = wc)
    case first =>
      clear E
      repeat' ((fail_if_success (with_reducible refine stop_append rfl ?_)); (fail_if_success (with_reducible refine stop_copy rfl ?_)); first | go_values | go_skip | go_guarded | go_step | go_upon | (simp only []; go_at_K))
      all_goals (go_meet; case rel => exact ⟨by simp [*], rfl⟩)
    case rest =>
      obtain ⟨rfl, rfl⟩ := hcut
      generalize ((s == 0 || true) && (a == 0 || false) && (p == 0 || true) && (q == 0 || true) && (i == 0 || false)) = f7 at *
      go_upto_region 8 with fail
      go_cut [0, 5] from 6 (fun _ s5 we => s5 = .bool (f7 && (!true || wi s 1 2) && (!false || wi a 0 1) && (!true || wi p lo 1073741824)) ∧ we = wc)
      case first =>
        clear E
        cases f7 <;> repeat' ((fail_if_success (with_reducible refine stop_append rfl ?_)); (fail_if_success (with_reducible refine stop_copy rfl ?_)); first | go_values | go_skip | go_guarded | go_step | go_upon | (simp only []; go_at_K))
        all_goals (try ((with_reducible refine (ref05Within s 1 2 _).mono ?_); rintro e w4 ⟨rfl, rfl⟩; generalize wi s 1 2 = y1 at *; cases y1 <;> repeat' ((fail_if_success (with_reducible refine stop_append rfl ?_)); (fail_if_success (with_reducible refine stop_copy rfl ?_)); first | go_values | go_skip | go_guarded | go_step | go_upon | (simp only []; go_at_K))))
        all_goals (try ((with_reducible refine (ref05Within a 0 1 _).mono ?_); rintro e w4 ⟨rfl, rfl⟩; generalize wi a 0 1 = y2 at *; cases y2 <;> repeat' ((fail_if_success (with_reducible refine stop_append rfl ?_)); (fail_if_success (with_reducible refine stop_copy rfl ?_)); first | go_values | go_skip | go_guarded | go_step | go_upon | (simp only []; go_at_K))))
        all_goals (try ((with_reducible refine (ref05Within p lo 1073741824 _).mono ?_); rintro e w4 ⟨rfl, rfl⟩; generalize wi p lo 1073741824 = y3 at *; cases y3 <;> repeat' ((fail_if_success (with_reducible refine stop_append rfl ?_)); (fail_if_success (with_reducible refine stop_copy rfl ?_)); first | go_values | go_skip | go_guarded | go_step | go_upon | (simp only []; go_at_K))))
        all_goals (go_meet; case rel => exact ⟨by simp [*], rfl⟩)
      case rest =>
        obtain ⟨rfl, rfl⟩ := hcut
        have HE : Hid (∀ b, ((f7 && (!true || wi s 1 2) && (!false || wi a 0 1) && (!true || wi p lo 1073741824)) && !(true && !wi q 1 1073741824) && !(false && !wi i 1 1099511627776)) = b → V = if b then 0 else 1) := fun b h => E.out b (by simpa using h)
        clear E
        generalize (f7 && (!true || wi s 1 2) && (!false || wi a 0 1) && (!true || wi p lo 1073741824)) = f8 at *
        cases f8 <;> repeat' ((fail_if_success (with_reducible refine stop_append rfl ?_)); (fail_if_success (with_reducible refine stop_copy rfl ?_)); first | go_values | go_skip | go_guarded | go_step | go_upon | (simp only []; go_at_K))
        all_goals (try ((with_reducible refine (ref05Within q 1 1073741824 _).mono ?_); rintro e w4 ⟨rfl, rfl⟩; generalize wi q 1 1073741824 = y4 at *; cases y4 <;> repeat' ((fail_if_success (with_reducible refine stop_append rfl ?_)); (fail_if_success (with_reducible refine stop_copy rfl ?_)); first | go_values | go_skip | go_guarded | go_step | go_upon | (simp only []; go_at_K))))
        all_goals (try ((with_reducible refine (ref05Within i 1 1099511627776 _).mono ?_); rintro e w4 ⟨rfl, rfl⟩; generalize wi i 1 1099511627776 = y5 at *; cases y5 <;> repeat' ((fail_if_success (with_reducible refine stop_append rfl ?_)); (fail_if_success (with_reducible refine stop_copy rfl ?_)); first | go_values | go_skip | go_guarded | go_step | go_upon | (simp only []; go_at_K))))
        all_goals go_ret
        all_goals first
          | exact ⟨by rw [HE.out false (by simp)]; rfl, U3⟩
          | exact ⟨by rw [HE.out true (by simp)]; rfl, U3⟩
end Go.Proofs.YtmnoahglajilhaaDoor
