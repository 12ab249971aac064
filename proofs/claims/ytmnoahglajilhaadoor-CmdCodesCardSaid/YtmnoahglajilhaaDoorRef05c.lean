/- Commands: agioref05.May. -/
import Derived.Test.YtmnoahglajilhaaDoorRef05P0
import Derived.Test.YtmnoahglajilhaaDoorRef05P1
import Derived.Test.YtmnoahglajilhaaDoorRef05P2
import Derived.Test.YtmnoahglajilhaaDoorRef05P3
import Derived.Test.YtmnoahglajilhaaDoorRef05P4
import Derived.Test.YtmnoahglajilhaaDoorRef05P5
import Derived.Test.YtmnoahglajilhaaDoorRef05P6
set_option linter.all false
namespace Go.Proofs.YtmnoahglajilhaaDoor
open Go.RowKit Agio

theorem ref05May (c : Cm) (w : World) : Calls Tryd.prog 12 #[c.val] w fun e w' => e = .returned (.int .i64 c.err) ∧ Upd [] [] w w' := by
  by_cases hk : 0 ≤ c.k ∧ c.k ≤ 11
  · have : c.k = 0 ∨ c.k = 1 ∨ c.k = 2 ∨ c.k = 3 ∨ c.k = 4 ∨ c.k = 5 ∨ c.k = 6 ∨ c.k = 7 ∨ c.k = 8 ∨ c.k = 9 ∨ c.k = 10 ∨ c.k = 11 := by omega
    rcases this with h | h | h | h | h | h | h | h | h | h | h | h
    · exact ref05May_p6 c (by rw [h]; rfl) (by rw [h]; rfl) (by rw [h]; rfl) (by rw [h]; rfl) (by rw [h]; rfl) w
    · exact ref05May_p0 c (by rw [h]; rfl) (by rw [h]; rfl) (by rw [h]; rfl) (by rw [h]; rfl) (by rw [h]; rfl) w
    · exact ref05May_p1 c (by rw [h]; rfl) (by rw [h]; rfl) (by rw [h]; rfl) (by rw [h]; rfl) (by rw [h]; rfl) w
    · exact ref05May_p0 c (by rw [h]; rfl) (by rw [h]; rfl) (by rw [h]; rfl) (by rw [h]; rfl) (by rw [h]; rfl) w
    · exact ref05May_p0 c (by rw [h]; rfl) (by rw [h]; rfl) (by rw [h]; rfl) (by rw [h]; rfl) (by rw [h]; rfl) w
    · exact ref05May_p0 c (by rw [h]; rfl) (by rw [h]; rfl) (by rw [h]; rfl) (by rw [h]; rfl) (by rw [h]; rfl) w
    · exact ref05May_p0 c (by rw [h]; rfl) (by rw [h]; rfl) (by rw [h]; rfl) (by rw [h]; rfl) (by rw [h]; rfl) w
    · exact ref05May_p2 c (by rw [h]; rfl) (by rw [h]; rfl) (by rw [h]; rfl) (by rw [h]; rfl) (by rw [h]; rfl) w
    · exact ref05May_p3 c (by rw [h]; rfl) (by rw [h]; rfl) (by rw [h]; rfl) (by rw [h]; rfl) (by rw [h]; rfl) w
    · exact ref05May_p4 c (by rw [h]; rfl) (by rw [h]; rfl) (by rw [h]; rfl) (by rw [h]; rfl) (by rw [h]; rfl) w
    · exact ref05May_p4 c (by rw [h]; rfl) (by rw [h]; rfl) (by rw [h]; rfl) (by rw [h]; rfl) (by rw [h]; rfl) w
    · exact ref05May_p5 c (by rw [h]; rfl) (by rw [h]; rfl) (by rw [h]; rfl) (by rw [h]; rfl) (by rw [h]; rfl) w
  · have f := fun (P : Prop) (d : Decidable P) (h : ¬ P) => decide_eq_false h
    exact ref05May_p6 c (by simp [uS]; omega) (by simp [uA]; omega) (by simp [uP]; omega) (by simp [uQ]; omega) (by simp [uI]; omega) w
end Go.Proofs.YtmnoahglajilhaaDoor
