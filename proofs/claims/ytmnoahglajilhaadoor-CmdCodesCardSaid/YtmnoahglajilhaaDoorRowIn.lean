/- What a row of a seat without cards starts with: its arguments as the walk takes them. -/
import Derived.Test.YtmnoahglajilhaaDoorRows
import Derived.Test.YtmnoahglajilhaaDoorBase2
import Derived.ChangeSame
import Derived.ChangeVars
import Derived.JoinedOf
import Derived.Stop.Joined
import Derived.ProofKit
import Derived.OpenShut
import Derived.ShutString
import Derived.ChangeOld
import Derived.SizedLaws
import Derived.HandedShaped
set_option linter.all false
namespace Go.Proofs.YtmnoahglajilhaaDoor
open Go.ChangeShapes Go.WideShapes Go.RowKit Agio

theorem own : ownKnob Tryd.prog.godebug = none := by kernel_rfl
theorem laidOut : laidOutB Tryd.prog = true := by kernel_rfl

/-- A slice of bytes that came in, as the walk takes it. -/
theorem bytes_in {H : Type} {enc : TypeId × Value → H} {W : World} {base : Nat} {spare : Nat → Bool} {held : Bool} {a0 : Option Addr} {len cap : Nat} {d : DataW H} {p : List MemPlace}
    (h : DataW.Trod enc Tryd.prog W base spare held 24 (.slice a0 len cap) d p) :
    ∃ b : List UInt8, RdB W a0 len b ∧ len ≤ cap ∧ cap ≤ maxLen ∧ (a0 = none → cap = 0) ∧ (d = .nil ∧ b = [] ∨ ∃ sp, d = .slice (b.map fun c => .lit (.int .u8 (c.toNat : Int))) sp) := by
  obtain ⟨fuel, hf⟩ := h
  rcases open_ints Tryd.underlying24 Tryd.underlying5 (by kernel_rfl) hf with ⟨hcs, hx⟩ | ⟨x, l, c, zs, hcs, _, hl, hm, hz, hx, hcell, hwz⟩
  · simp [Value.cells] at hcs
    obtain ⟨rfl, rfl, rfl⟩ := hcs
    simp only [Prod.mk.injEq] at hx
    exact ⟨[], RdB.nil _ _, by omega, by simp [maxLen], fun _ => rfl, .inl ⟨hx.1, rfl⟩⟩
  · simp [Value.cells] at hcs
    obtain ⟨rfl, rfl, rfl⟩ := hcs
    simp only [Prod.mk.injEq] at hx
    have hlz : len ≤ zs.length := by rw [hz]; split <;> omega
    have hb : ∀ n ∈ zs, B8 (UInt8.ofNat n.toNat) = .int .u8 n := by
      intro n hn
      have hw := bounds_u8 (hwz n hn)
      rw [B8_ofNat (by omega)]; congr 1; omega
    refine ⟨(zs.take len).map fun n => UInt8.ofNat n.toNat, ⟨by simp; omega, fun _ => ⟨x, rfl, fun j u hu => ?_⟩⟩, hl, hm, (fun h => by cases h), .inr ⟨lits .u8 (zs.drop len), ?_⟩⟩
    · have hj : j < len := by
        rcases Nat.lt_or_ge j len with h | h
        · exact h
        · rw [List.getElem?_eq_none (by simp; omega)] at hu; cases hu
      rw [hcell j (by omega)]
      have hjz : j < zs.length := by omega
      simp only [b8s, List.map_map, List.getElem?_map, List.getElem?_take, hj, if_true, List.getElem?_eq_getElem hjz, Option.map_some, Option.some.injEq] at hu
      rw [← hu]
      simp only [Function.comp, hb _ (List.getElem_mem hjz), List.getD, List.getElem?_eq_getElem hjz, Option.getD_some]
    · rw [hx.1]
      congr 1
      simp only [lits, List.map_map]
      refine List.map_congr_left fun n hn => ?_
      have hw := bounds_u8 (hwz n (List.mem_of_mem_take hn))
      simp
      omega
end Go.Proofs.YtmnoahglajilhaaDoor
