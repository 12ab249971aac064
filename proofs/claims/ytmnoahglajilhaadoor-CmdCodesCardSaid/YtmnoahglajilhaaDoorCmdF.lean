/- Commands: agiolaw05.CmdCodes, with agioref05.May by its kinds. -/
import Derived.Test.YtmnoahglajilhaaDoorCmdE
import Derived.Test.YtmnoahglajilhaaDoorRef05c
set_option linter.all false
namespace Go.Proofs.YtmnoahglajilhaaDoor
open Go.RowKit Agio

theorem flds_bd {k s a p q i : Int} (h : flds k s a p q i = true) : ∀ n ∈ [s, a, p, q, i], -1099511627776 ≤ n ∧ n ≤ 1099511627776 := by
  obtain ⟨h0, h1⟩ := flds_kind h
  have : k = 0 ∨ k = 1 ∨ k = 2 ∨ k = 3 ∨ k = 4 ∨ k = 5 ∨ k = 6 ∨ k = 7 ∨ k = 8 ∨ k = 9 ∨ k = 10 ∨ k = 11 := by omega
  rcases this with rfl | rfl | rfl | rfl | rfl | rfl | rfl | rfl | rfl | rfl | rfl | rfl <;> simp [flds, wi] at h <;> simp <;> omega
theorem tail_bd {c : Cm} (hm : c.may = true) : ∀ n ∈ c.tail, -1099511627776 ≤ n ∧ n ≤ 1099511627776 := by
  simp only [Cm.may, Bool.and_eq_true] at hm
  obtain ⟨⟨⟨_, h1⟩, h2⟩, h3⟩ := hm
  have h4 := flds_bd h3
  simp only [wi, Bool.and_eq_true, decide_eq_true_eq] at h1 h2
  intro n hn
  simp only [Cm.tail, List.mem_cons, List.not_mem_nil, or_false] at hn
  rcases hn with rfl | rfl | hn
  · omega
  · omega
  · exact h4 n (by simpa using hn)
theorem cmI_of {c : Cm} (hm : c.may = true) : c.I := by
  obtain ⟨⟨hk0, hk1⟩, hc0, hc1⟩ := Cm.may_k hm
  refine ⟨by unfold I64; omega, by unfold I64; omega, fun n hn => ?_⟩
  have := tail_bd hm n hn
  unfold I64; omega
theorem cmdCodes_any (w : World) (hG : GoodG w) (c : Cm) (B : Option Addr) (m d : Nat) (b : List UInt8) (hB : RdB w B m b) (hb : b.length ≤ 140737488355328) :
    Calls Tryd.prog 3 #[c.val, .slice B m d] w fun e w' => e = .returned (.bool true) ∧ Upd [] [] w w' :=
  cmdCodes_of ref05May w hG c cmI_of B m d b hB hb
end Go.Proofs.YtmnoahglajilhaaDoor
