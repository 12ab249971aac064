/- Layer 12, the document's: Same. -/
import Derived.Test.YtijhlbeipglieaaGreatPkWrldM
namespace Go.Proofs.YtijhlbeipglieaaGreat
open Go.RowKit Agio Go.Maps

structure RdR (w : World) (A : Option Addr) (l : List Bsl) : Prop where
  row : Rd w 1 A l.length (l.map Bsl.val)
  each : ∀ x ∈ l, RdB w x.A x.n x.b
theorem RdR.take {w : World} {A : Option Addr} {l : List Bsl} (h : RdR w A l) {n : Nat} (hn : n ≤ l.length) : RdR w A (l.take n) := by
  refine ⟨?_, fun x hx => h.each x (List.mem_of_mem_take hx)⟩
  have := Rd.take (k := n) h.row hn
  rw [Nat.mul_one, ← List.map_take] at this
  rw [List.length_take, Nat.min_eq_left hn]
  exact this
theorem OwnS.rdr {w : World} {A : Option Addr} {c : Nat} {l : List Bsl} (h : OwnS w A c l) : RdR w A l := ⟨h.own.rd, fun x hx => (h.each x hx).rd⟩
theorem RdR.at_ {w : World} {A : Option Addr} {l : List Bsl} (h : RdR w A l) {i : Nat} (hi : i < l.length) : ∃ ad, A = some ad ∧ w.cell? (ad.add i) = some l[i].val ∧ RdB w l[i].A l[i].n l[i].b := by
  obtain ⟨ad, hA, hc⟩ := h.row.2 (by omega)
  exact ⟨ad, hA, hc i _ (by rw [List.getElem?_map, List.getElem?_eq_getElem hi]; rfl), h.each _ (List.getElem_mem hi)⟩
end Go.Proofs.YtijhlbeipglieaaGreat
