/- Words for memory, still more: rows of two kinds lie apart; a row and a block without cells. No program in sight. -/
import Derived.Test.YtdmmpcdilkcfjaaBase2
namespace Agio
open Go Go.RowKit

theorem Upd.up {b : List Nat} {w w' : World} (h : Upd [] b w w') (fp : List Nat) : Upd fp fp w w' := h.mono (by simp) (fun _ hk => .inr (.inl hk))
theorem Own.disj {e e' : TypeId} {size size' : Nat} {w : World} {A A' : Option Addr} {n n' c c' : Nat} {xs xs' : List Value} (h : Own e size w A n c xs) (h' : Own e' size' w A' n' c' xs') (hne : e ≠ e') : ∀ k ∈ ablk A, k ∉ ablk A' := by
  intro k hk hm
  rcases h.2 with ⟨hv, _⟩ | ⟨g, cap, cur, hv, _, hg, _⟩
  · injection hv with hA; subst hA; simp [ablk] at hk
  · injection hv with hA; subst hA
    rcases h'.2 with ⟨hv', _⟩ | ⟨g', cap', cur', hv', _, hg', _⟩
    · injection hv' with hA'; subst hA'; simp [ablk] at hm
    · injection hv' with hA'; subst hA'
      simp [ablk] at hk hm
      subst hk
      subst hm
      rw [hg] at hg'
      injection hg' with hg'
      injection hg' with _ ht
      exact hne ht
end Agio
