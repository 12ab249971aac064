/- What a bound on the bulk of what came in gives. -/
import Derived.Test.YtdmmpcdilkcfjaaRowIn
import Derived.JoinedCond
import Derived.Deep.CondSized
namespace Go.Proofs.Ytdmmpcdilkcfjaa
open Go.ChangeShapes Go.WideShapes Go.RowKit Agio

theorem bulk_one {H : Type} (d : DataW H) : 1 ≤ Rows.uptoBulk d := by
  cases d with
  | lit l => cases l <;> simp [Rows.uptoBulk]
  | nil => simp [Rows.uptoBulk]
  | ptr d => simp [Rows.uptoBulk]
  | slice elems spare => simp [Rows.uptoBulk]
  | agg parts => simp [Rows.uptoBulk]
  | iface t d => simp [Rows.uptoBulk]
  | map entries => simp [Rows.uptoBulk]
  | held h => simp [Rows.uptoBulk]
theorem bulk_length {H : Type} (l : List (DataW H)) : l.length ≤ Rows.uptoBulkAll l := by
  induction l with
  | nil => simp [Rows.uptoBulkAll]
  | cons x r ih => have := bulk_one x; simp only [Rows.uptoBulkAll, List.length_cons]; omega
theorem bulk_bytes {H : Type} {b : List UInt8} {d : DataW H} (h : d = .nil ∧ b = [] ∨ ∃ sp, d = .slice (b.map fun c => .lit (.int .u8 (c.toNat : Int))) sp) : b.length ≤ Rows.uptoBulk d := by
  rcases h with ⟨rfl, rfl⟩ | ⟨sp, rfl⟩
  · simp
  · have := bulk_length (H := H) (b.map fun c => .lit (.int .u8 (c.toNat : Int)))
    simp only [Rows.uptoBulk, List.length_map] at this ⊢
    omega
end Go.Proofs.Ytdmmpcdilkcfjaa
