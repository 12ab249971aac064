/- The document's orders compared with themselves. -/
import Derived.Test.YtdmmpcdilkcfjaaSide1
import Derived.Laws.StructEq
namespace Go.Proofs.Ytdmmpcdilkcfjaa
open Go.RowKit Agio

set_option maxRecDepth 100000 in
theorem eqSelfRefO (x0 x1 x2 x3 x4 : Int) (x5 : Bool) (x6 : Int) (w : World) : (binOp .eql 45 (.agg #[.int .i64 x0, .int .i64 x1, .int .i64 x2, .int .i64 x3, .int .i64 x4, .bool x5, .int .i64 x6]) (.agg #[.int .i64 x0, .int .i64 x1, .int .i64 x2, .int .i64 x3, .int .i64 x4, .bool x5, .int .i64 x6])).run Try.prog w = .ok (.bool true) w := by
  simp only [binOp, Op.equal, Op.maxDepth, Sem.run_bind]
  rw [run_equalIn_struct w _ _ _ _ (by kernel_rfl) (by kernel_rfl)]
  rw [show Try.prog.fieldsOf 45 = _ from by unfold Program.fieldsOf; rw [Try.underlying45]]
  have p0 := fun (w : World) => show (part 2 #[.int .i64 x0, .int .i64 x1, .int .i64 x2, .int .i64 x3, .int .i64 x4, .bool x5, .int .i64 x6] 0).run Try.prog w = .ok (.int .i64 x0) w by kernel_rfl
  have p1 := fun (w : World) => show (part 3 #[.int .i64 x0, .int .i64 x1, .int .i64 x2, .int .i64 x3, .int .i64 x4, .bool x5, .int .i64 x6] 1).run Try.prog w = .ok (.int .i64 x1) w by kernel_rfl
  have p2 := fun (w : World) => show (part 3 #[.int .i64 x0, .int .i64 x1, .int .i64 x2, .int .i64 x3, .int .i64 x4, .bool x5, .int .i64 x6] 2).run Try.prog w = .ok (.int .i64 x2) w by kernel_rfl
  have p3 := fun (w : World) => show (part 2 #[.int .i64 x0, .int .i64 x1, .int .i64 x2, .int .i64 x3, .int .i64 x4, .bool x5, .int .i64 x6] 3).run Try.prog w = .ok (.int .i64 x3) w by kernel_rfl
  have p4 := fun (w : World) => show (part 2 #[.int .i64 x0, .int .i64 x1, .int .i64 x2, .int .i64 x3, .int .i64 x4, .bool x5, .int .i64 x6] 4).run Try.prog w = .ok (.int .i64 x4) w by kernel_rfl
  have p5 := fun (w : World) => show (part 4 #[.int .i64 x0, .int .i64 x1, .int .i64 x2, .int .i64 x3, .int .i64 x4, .bool x5, .int .i64 x6] 5).run Try.prog w = .ok (.bool x5) w by kernel_rfl
  have p6 := fun (w : World) => show (part 2 #[.int .i64 x0, .int .i64 x1, .int .i64 x2, .int .i64 x3, .int .i64 x4, .bool x5, .int .i64 x6] 6).run Try.prog w = .ok (.int .i64 x6) w by kernel_rfl
  have e0 := fun (a : Int) (w : World) => show (Op.equalIn 9999 3 (.int .i64 a) (.int .i64 a)).run Try.prog w = .ok (a == a) w by kernel_rfl
  have e1 := fun (a : Int) (w : World) => show (Op.equalIn 9999 2 (.int .i64 a) (.int .i64 a)).run Try.prog w = .ok (a == a) w by kernel_rfl
  have e2 := fun (a : Bool) (w : World) => show (Op.equalIn 9999 4 (.bool a) (.bool a)).run Try.prog w = .ok (a == a) w by kernel_rfl
  simp [Op.eqFields, Sem.run_bind, p0, p1, p2, p3, p4, p5, p6, e0, e1, e2, Result.andThen_ok, Sem.run_ite, Sem.run_pure]
theorem neSelfRefO (x0 x1 x2 x3 x4 : Int) (x5 : Bool) (x6 : Int) (w : World) : (binOp .neq 45 (.agg #[.int .i64 x0, .int .i64 x1, .int .i64 x2, .int .i64 x3, .int .i64 x4, .bool x5, .int .i64 x6]) (.agg #[.int .i64 x0, .int .i64 x1, .int .i64 x2, .int .i64 x3, .int .i64 x4, .bool x5, .int .i64 x6])).run Try.prog w = .ok (.bool false) w := by
  have h := eqSelfRefO x0 x1 x2 x3 x4 x5 x6 w
  simp only [binOp, Sem.run_bind] at h ⊢
  revert h
  cases hh : (Op.equal 45 (.agg #[.int .i64 x0, .int .i64 x1, .int .i64 x2, .int .i64 x3, .int .i64 x4, .bool x5, .int .i64 x6]) (.agg #[.int .i64 x0, .int .i64 x1, .int .i64 x2, .int .i64 x3, .int .i64 x4, .bool x5, .int .i64 x6])).run Try.prog w <;> simp [Result.andThen, Sem.run_pure]
end Go.Proofs.Ytdmmpcdilkcfjaa
