/- Ballots compared. -/
import Derived.Test.YtdmmpcdilkcfjaaFrame4
import Derived.Laws.StructEq
namespace Go.Proofs.Ytdmmpcdilkcfjaa
open Go.RowKit Agio

theorem eqBal (a b c d : Int) (w : World) : (binOp .eql 75 (.agg #[.int .i64 a, .int .i64 b]) (.agg #[.int .i64 c, .int .i64 d])).run Try.prog w = .ok (.bool ((a == c) && (b == d))) w := by
  rw [run_eql_struct, show (10000 : Nat) = 9999 + 1 from rfl]
  rw [run_equalIn_struct w _ _ _ _ (by kernel_rfl) (by kernel_rfl)]
  rw [show Try.prog.fieldsOf 75 = _ from by unfold Program.fieldsOf; rw [Try.underlying75]]
  have p0 := fun (x y : Int) (w : World) => show (part 3 #[.int .i64 x, .int .i64 y] 0).run Try.prog w = .ok (.int .i64 x) w by kernel_rfl
  have p1 := fun (x y : Int) (w : World) => show (part 3 #[.int .i64 x, .int .i64 y] 1).run Try.prog w = .ok (.int .i64 y) w by kernel_rfl
  have e0 := fun (a b : Int) (w : World) => show (Op.equalIn 9999 3 (.int .i64 a) (.int .i64 b)).run Try.prog w = .ok (a == b) w by kernel_rfl
  simp only [Op.eqFields, Sem.run_bind, p0, p1, e0, Result.andThen_ok, ne_eq, String.reduceEq, not_false_eq_true, if_true, Sem.run_ite, Sem.run_pure]
  cases a == c
  · rfl
  cases b == d <;> rfl
end Go.Proofs.Ytdmmpcdilkcfjaa
