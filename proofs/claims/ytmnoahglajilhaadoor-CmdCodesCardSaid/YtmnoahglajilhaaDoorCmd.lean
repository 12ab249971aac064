/- Commands: (agio/cmd).within, fields, May. -/
import Derived.Test.YtmnoahglajilhaaDoorAwake2
import Derived.Laws.StructEq
namespace Go.Proofs.YtmnoahglajilhaaDoor
open Go.RowKit Agio

/-- Is n one of the numbers from a to b? -/
def wi (n a b : Int) : Bool := decide (a ≤ n) && decide (n ≤ b)

set_option maxRecDepth 100000 in
theorem cmdWithin (n a b : Int) (w : World) : Calls Tryd.prog 36 #[.int .i64 n, .int .i64 a, .int .i64 b] w fun e w' => e = .returned (.bool (wi n a b)) ∧ w = w' := by
  go_enter Tryd.func36, Tryd.ntmps36
  repeat' ((fail_if_success (with_reducible refine stop_append rfl ?_)); (fail_if_success (with_reducible refine stop_copy rfl ?_)); first | go_values | go_skip | go_guarded | go_step | go_upon | (simp only []; go_at_K))
  all_goals go_ret
  all_goals exact ⟨by simp [wi, *], rfl⟩
theorem eqCmd (a0 a1 a2 a3 a4 a5 a6 a7 a8 b0 b1 b2 b3 b4 b5 b6 b7 b8 : Int) (w : World) : (binOp .eql 23 (.agg #[.int .i64 a0, .int .i64 a1, .int .i64 a2, .int .i64 a3, .int .i64 a4, .int .i64 a5, .int .i64 a6, .int .i64 a7, .int .i64 a8]) (.agg #[.int .i64 b0, .int .i64 b1, .int .i64 b2, .int .i64 b3, .int .i64 b4, .int .i64 b5, .int .i64 b6, .int .i64 b7, .int .i64 b8])).run Tryd.prog w
    = .ok (.bool ((a0 == b0) && ((a1 == b1) && ((a2 == b2) && ((a3 == b3) && ((a4 == b4) && ((a5 == b5) && ((a6 == b6) && ((a7 == b7) && (a8 == b8)))))))))) w := by
  simp only [binOp, Op.equal, Op.maxDepth, Sem.run_bind]
  rw [run_equalIn_struct w _ _ _ _ (by kernel_rfl) (by kernel_rfl)]
  rw [show Tryd.prog.fieldsOf 23 = _ from by unfold Program.fieldsOf; rw [Tryd.underlying23]]
  have p0 := fun (x0 x1 x2 x3 x4 x5 x6 x7 x8 : Int) (w : World) => show (part 3 #[.int .i64 x0, .int .i64 x1, .int .i64 x2, .int .i64 x3, .int .i64 x4, .int .i64 x5, .int .i64 x6, .int .i64 x7, .int .i64 x8] 0).run Tryd.prog w = .ok (.int .i64 x0) w by kernel_rfl
  have p1 := fun (x0 x1 x2 x3 x4 x5 x6 x7 x8 : Int) (w : World) => show (part 3 #[.int .i64 x0, .int .i64 x1, .int .i64 x2, .int .i64 x3, .int .i64 x4, .int .i64 x5, .int .i64 x6, .int .i64 x7, .int .i64 x8] 1).run Tryd.prog w = .ok (.int .i64 x1) w by kernel_rfl
  have p2 := fun (x0 x1 x2 x3 x4 x5 x6 x7 x8 : Int) (w : World) => show (part 2 #[.int .i64 x0, .int .i64 x1, .int .i64 x2, .int .i64 x3, .int .i64 x4, .int .i64 x5, .int .i64 x6, .int .i64 x7, .int .i64 x8] 2).run Tryd.prog w = .ok (.int .i64 x2) w by kernel_rfl
  have p3 := fun (x0 x1 x2 x3 x4 x5 x6 x7 x8 : Int) (w : World) => show (part 2 #[.int .i64 x0, .int .i64 x1, .int .i64 x2, .int .i64 x3, .int .i64 x4, .int .i64 x5, .int .i64 x6, .int .i64 x7, .int .i64 x8] 3).run Tryd.prog w = .ok (.int .i64 x3) w by kernel_rfl
  have p4 := fun (x0 x1 x2 x3 x4 x5 x6 x7 x8 : Int) (w : World) => show (part 3 #[.int .i64 x0, .int .i64 x1, .int .i64 x2, .int .i64 x3, .int .i64 x4, .int .i64 x5, .int .i64 x6, .int .i64 x7, .int .i64 x8] 4).run Tryd.prog w = .ok (.int .i64 x4) w by kernel_rfl
  have p5 := fun (x0 x1 x2 x3 x4 x5 x6 x7 x8 : Int) (w : World) => show (part 3 #[.int .i64 x0, .int .i64 x1, .int .i64 x2, .int .i64 x3, .int .i64 x4, .int .i64 x5, .int .i64 x6, .int .i64 x7, .int .i64 x8] 5).run Tryd.prog w = .ok (.int .i64 x5) w by kernel_rfl
  have p6 := fun (x0 x1 x2 x3 x4 x5 x6 x7 x8 : Int) (w : World) => show (part 2 #[.int .i64 x0, .int .i64 x1, .int .i64 x2, .int .i64 x3, .int .i64 x4, .int .i64 x5, .int .i64 x6, .int .i64 x7, .int .i64 x8] 6).run Tryd.prog w = .ok (.int .i64 x6) w by kernel_rfl
  have p7 := fun (x0 x1 x2 x3 x4 x5 x6 x7 x8 : Int) (w : World) => show (part 2 #[.int .i64 x0, .int .i64 x1, .int .i64 x2, .int .i64 x3, .int .i64 x4, .int .i64 x5, .int .i64 x6, .int .i64 x7, .int .i64 x8] 7).run Tryd.prog w = .ok (.int .i64 x7) w by kernel_rfl
  have p8 := fun (x0 x1 x2 x3 x4 x5 x6 x7 x8 : Int) (w : World) => show (part 2 #[.int .i64 x0, .int .i64 x1, .int .i64 x2, .int .i64 x3, .int .i64 x4, .int .i64 x5, .int .i64 x6, .int .i64 x7, .int .i64 x8] 8).run Tryd.prog w = .ok (.int .i64 x8) w by kernel_rfl
  have e0 := fun (a b : Int) (w : World) => show (Op.equalIn 9999 3 (.int .i64 a) (.int .i64 b)).run Tryd.prog w = .ok (a == b) w by kernel_rfl
  have e1 := fun (a b : Int) (w : World) => show (Op.equalIn 9999 2 (.int .i64 a) (.int .i64 b)).run Tryd.prog w = .ok (a == b) w by kernel_rfl
  simp only [Op.eqFields, Sem.run_bind, p0, p1, p2, p3, p4, p5, p6, p7, p8, e0, e1, Result.andThen_ok, ne_eq, String.reduceEq, not_false_eq_true, if_true, Sem.run_ite, Sem.run_pure]
  cases a0 == b0
  · rfl
  cases a1 == b1
  · rfl
  cases a2 == b2
  · rfl
  cases a3 == b3
  · rfl
  cases a4 == b4
  · rfl
  cases a5 == b5
  · rfl
  cases a6 == b6
  · rfl
  cases a7 == b7
  · rfl
  cases a8 == b8 <;> rfl
end Go.Proofs.YtmnoahglajilhaaDoor
