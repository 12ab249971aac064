/- Slices of structs that came in; asks. -/
import Derived.Test.YtchlceolccfdhaaDoorItemsIn
import Derived.Test.YtchlceolccfdhaaDoorStructs
import Derived.Test.YtchlceolccfdhaaDoorReads
namespace Go.Proofs.YtchlceolccfdhaaDoor
open Go.ChangeShapes Go.WideShapes Go.RowKit Go.Deep Agio

theorem rdS_of_each {α : Type} {f : α → List Value} {s : Nat} (hs : ∀ x, (f x).length = s) {W : World} {a : Addr} {len : Nat} {P : α → Prop}
    (each : ∀ i, i < len → ∃ x, (∀ j u, (f x)[j]? = some u → W.cell? (a.add (i * s + j)) = some u) ∧ P x) : ∃ l, RdS f s W (some a) len l ∧ ∀ x ∈ l, P x := by
  obtain ⟨l, hl, hp⟩ := list_of len each
  subst hl
  refine ⟨l, RdS.of hs a (fun i hi j u hu => (hp i hi).1 j u hu), fun x hx => ?_⟩
  obtain ⟨i, hi, rfl⟩ := List.getElem_of_mem hx
  exact (hp i hi).2

set_option maxRecDepth 100000 in
theorem asks_in {H : Type} {enc : TypeId × Value → H} {W : World} {base : Nat} {spare : Nat → Bool} {held : Bool} {a0 : Option Addr} {len cap : Nat} {d : DataW H} {p : List MemPlace}
    (h : DataW.Trod enc Tryd.prog W base spare held 61 (.slice a0 len cap) d p) :
    ∃ l : List Asked, RdS Asked.cells 2 W a0 len l ∧ ∀ x ∈ l, I64 x.most := by
  obtain ⟨fuel, hf⟩ := h
  rcases open_slice_fields Tryd.underlying61 Tryd.underlying65 (by kernel_rfl) (by kernel_rfl) hf with ⟨hcs, hx⟩ | ⟨a, len', cap', m, D, Pl, hcs, _, hl, hm, hmm, hx, hi⟩
  · simp [Value.cells] at hcs
    obtain ⟨rfl, rfl, rfl⟩ := hcs
    exact ⟨[], ⟨rfl, Rd.none_⟩, by simp⟩
  · simp [Value.cells] at hcs
    obtain ⟨rfl, rfl, rfl⟩ := hcs
    have hlm : len ≤ m := by rw [hmm]; split <;> omega
    refine rdS_of_each Asked.cells_len fun i hil => ?_
    obtain ⟨ys, n, hD, _, hyl, hf⟩ := hi i (by omega)
    obtain ⟨v0, y0, c0, hy0, t0⟩ := hf 0 _ rfl
    obtain ⟨v1, y1, c1, hy1, t1⟩ := hf 1 _ rfl
    obtain ⟨x0, e0, rfl, w0⟩ := DataW.trod_int Tryd.underlying3 t0
    obtain ⟨x1, e1, rfl, w1⟩ := DataW.trod_int Tryd.underlying3 t1
    simp at e0 e1
    subst e0 e1
    have hb1 := bounds_i64 w1
    refine ⟨⟨x0, x1⟩, fun j u hu => ?_, by unfold I64; simp only; omega⟩
    have hj : j < 2 := by
      rcases Nat.lt_or_ge j 2 with h | h
      · exact h
      · rw [List.getElem?_eq_none (by simp [Asked.cells]; omega)] at hu; cases hu
    have : j = 0 ∨ j = 1 := by omega
    rcases this with rfl | rfl <;> simp [Asked.cells] at hu <;> subst hu
    · exact c0
    · exact c1
end Go.Proofs.YtchlceolccfdhaaDoor
