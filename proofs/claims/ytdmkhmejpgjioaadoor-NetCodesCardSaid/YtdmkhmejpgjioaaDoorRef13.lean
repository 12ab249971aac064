/- Messages: agioref08.Site, May; agioref13.May, fields. -/
import Derived.Test.YtdmkhmejpgjioaaDoorNet2
set_option linter.all false
namespace Go.Proofs.YtdmkhmejpgjioaaDoor
open Go.RowKit Agio

set_option maxRecDepth 100000 in
theorem ref08Site (n : Int) (w : World) : Calls Tryd.prog 84 #[.int .i64 n, .int .i64 7] w fun e w' => (∃ v, e = .returned (.bool v) ∧ (v = true ↔ 0 ≤ n ∧ n ≤ 6)) ∧ w = w' := by
  go_enter Tryd.func84, Tryd.ntmps84
  repeat' ((fail_if_success (with_reducible refine stop_append rfl ?_)); (fail_if_success (with_reducible refine stop_copy rfl ?_)); first | go_values | go_skip | go_guarded | go_step | go_upon | (simp only []; go_at_K))
  all_goals go_ret
  all_goals refine ⟨⟨_, rfl, ?_⟩, rfl⟩
  all_goals first
    | (simp only [Bool.false_eq_true, false_iff]; omega)
    | (simp only [decide_eq_true_eq]; omega)
    | (simp only [true_iff]; omega)
set_option maxRecDepth 100000 in
theorem ref08May (r s : Int) (w : World) : Calls Tryd.prog 85 #[.agg #[.int .i64 r, .int .i64 s], .int .i64 7] w fun e w' => (∃ v, e = .returned (.bool v) ∧ (v = true ↔ (0 ≤ r ∧ r ≤ 1099511627776) ∧ 0 ≤ s ∧ s ≤ 6)) ∧ Upd [] [] w w' := by
  have hU := fun o => (Upd.refl [] w).alloc o
  go_enter Tryd.func85, Tryd.ntmps85
  repeat' ((fail_if_success (with_reducible refine stop_append rfl ?_)); (fail_if_success (with_reducible refine stop_copy rfl ?_)); first | go_values | go_skip | go_guarded | go_step | go_upon | (simp only []; go_at_K))
  any_goals ((with_reducible refine (ref08Site _ _).mono ?_); rintro e w1 ⟨⟨v, rfl, hv⟩, rfl⟩; repeat' ((fail_if_success (with_reducible refine stop_append rfl ?_)); (fail_if_success (with_reducible refine stop_copy rfl ?_)); first | go_values | go_skip | go_guarded | go_step | go_upon | (simp only []; go_at_K)))
  all_goals go_ret
  all_goals refine ⟨⟨_, rfl, ?_⟩, hU _⟩
  all_goals first
    | (simp only [Bool.false_eq_true, false_iff]; omega)
    | (rw [hv]; omega)

set_option maxRecDepth 100000 in
set_option maxHeartbeats 8000000 in
theorem ref13May (x : Mv) (w : World) (hr : RdB w x.A x.n x.b) :
    Calls Tryd.prog 61 #[x.val] w fun e w' => (∃ v, e = .returned (.bool v) ∧ (v = true ↔ x.ms.May)) ∧ Upd [] [] w w' := by
  obtain ⟨k, f, t, s, br, bs, hr', hs, so, A, n, c, b⟩ := x
  have hn := hr.len
  simp only at hn
  have eqz := fun w => eqBal hr' hs 0 0 w
  have U0 := (Upd.refl [] w).alloc (.cells #[.int .i64 k, .int .i64 f, .int .i64 t, .int .i64 s, .int .i64 br, .int .i64 bs, .int .i64 hr', .int .i64 hs, .bool so, .slice A n c] 56)
  have hX := Blk.new w 56 #[.int .i64 k, .int .i64 f, .int .i64 t, .int .i64 s, .int .i64 br, .int .i64 bs, .int .i64 hr', .int .i64 hs, .bool so, .slice A n c]
  have hM : (⟨k, f, t, s, br, bs, hr', hs, so, A, n, c, b⟩ : Mv).ms.May ↔ (1 ≤ k ∧ k ≤ 8) ∧ (0 ≤ f ∧ f ≤ 6) ∧ (0 ≤ t ∧ t ≤ 6) ∧ (0 ≤ s ∧ s ≤ 4095) ∧ ((0 ≤ br ∧ br ≤ 1099511627776) ∧ 0 ≤ bs ∧ bs ≤ 6) ∧ ((0 ≤ hr' ∧ hr' ≤ 1099511627776) ∧ 0 ≤ hs ∧ hs ≤ 6) ∧ (n : Int) ≤ 2048 ∧ (so = true ∨ (hr' = 0 ∧ hs = 0) ∧ (n : Int) = 0) := by
    constructor
    · rintro ⟨h1, h2, h3, h4, h5, h6, h7, h8, h9, h10⟩
      simp only [Mv.ms] at h1 h2 h3 h4 h5 h6 h7 h8 h9 h10
      refine ⟨h1, h2, h3, h4, ⟨h5, h6⟩, ⟨h7, h8⟩, by omega, ?_⟩
      rcases h10 with h | ⟨h, h'⟩
      · exact .inl h
      · exact .inr ⟨h, by omega⟩
    · rintro ⟨h1, h2, h3, h4, ⟨h5, h6⟩, ⟨h7, h8⟩, h9, h10⟩
      refine ⟨h1, h2, h3, h4, h5, h6, h7, h8, by simp only [Mv.ms]; omega, ?_⟩
      rcases h10 with h | ⟨h, h'⟩
      · exact .inl h
      · exact .inr ⟨h, by simp only [Mv.ms]; omega⟩
  have HM := Lib.hid hM
  clear hM hr hn
  rw [Mv.val_eq]
  go_enter Tryd.func61, Tryd.ntmps61
  repeat' ((fail_if_success (with_reducible refine stop_append rfl ?_)); (fail_if_success (with_reducible refine stop_copy rfl ?_)); first | go_values | go_skip | go_guarded | go_step | go_upon | (simp only []; go_at_K))
  any_goals ((with_reducible refine (ref08Site _ _).mono ?_); rintro e w1 ⟨⟨v, rfl, hv1⟩, rfl⟩; cases v <;> simp only [Bool.false_eq_true, false_iff, true_iff] at hv1 <;> repeat' ((fail_if_success (with_reducible refine stop_append rfl ?_)); (fail_if_success (with_reducible refine stop_copy rfl ?_)); first | go_values | go_skip | go_guarded | go_step | go_upon | (simp only []; go_at_K)))
  any_goals ((with_reducible refine (ref08Site _ _).mono ?_); rintro e w1 ⟨⟨v, rfl, hv2⟩, rfl⟩; cases v <;> simp only [Bool.false_eq_true, false_iff, true_iff] at hv2 <;> repeat' ((fail_if_success (with_reducible refine stop_append rfl ?_)); (fail_if_success (with_reducible refine stop_copy rfl ?_)); first | go_values | go_skip | go_guarded | go_step | go_upon | (simp only []; go_at_K)))
  any_goals ((with_reducible refine (ref08May _ _ _).mono ?_); rintro e w1 ⟨⟨v, rfl, hv3⟩, hu1⟩; have U1 := U0.trans hu1; have hX1 := hX.upd hu1 (by simp); clear U0 hX hu1; obtain ⟨⟨q0, q1, q2, q3, q4, q5, q6, q7, q8, q9⟩, -⟩ := hX1.c10; cases v <;> simp only [Bool.false_eq_true, false_iff, true_iff] at hv3 <;> repeat' ((fail_if_success (with_reducible refine stop_append rfl ?_)); (fail_if_success (with_reducible refine stop_copy rfl ?_)); first | go_values | go_skip | go_guarded | go_step | go_upon | (simp only []; go_at_K)))
  any_goals ((with_reducible refine (ref08May _ _ _).mono ?_); rintro e w2 ⟨⟨v, rfl, hv4⟩, hu2⟩; have U2 := U1.trans hu2; have hX2 := hX1.upd hu2 (by simp); clear U1 hX1 hu2 q0 q1 q2 q3 q4 q5 q6 q7 q8 q9; obtain ⟨⟨q0, q1, q2, q3, q4, q5, q6, q7, q8, q9⟩, -⟩ := hX2.c10; cases v <;> simp only [Bool.false_eq_true, false_iff, true_iff] at hv4 <;> repeat' ((fail_if_success (with_reducible refine stop_append rfl ?_)); (fail_if_success (with_reducible refine stop_copy rfl ?_)); first | go_values | go_skip | go_guarded | go_step | go_upon | (simp only []; go_at_K)))
  all_goals go_ret
  all_goals refine ⟨⟨_, rfl, ?_⟩, by first | exact U2 | exact U1 | exact U0⟩
  all_goals refine Iff.trans ?_ HM.out.symm
  all_goals clear HM eqz
  all_goals (cases so <;> (try contradiction) <;> (try simp only [Bool.false_eq_true, false_iff, true_iff, false_or, true_or, and_true, Bool.and_eq_true, beq_iff_eq, decide_eq_true_eq]) <;> omega)
end Go.Proofs.YtdmkhmejpgjioaaDoor
