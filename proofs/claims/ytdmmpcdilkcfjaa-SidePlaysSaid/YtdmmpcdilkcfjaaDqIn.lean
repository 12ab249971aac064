/- Deeds on a side that came in. -/
import Derived.Test.YtdmmpcdilkcfjaaElemsIn
import Derived.Test.YtdmmpcdilkcfjaaSidePlays
namespace Go.Proofs.Ytdmmpcdilkcfjaa
open Go.ChangeShapes Go.WideShapes Go.RowKit Go.Deep Agio

section
variable {H : Type} {enc : TypeId × Value → H} {W : World} {base : Nat} {spare : Nat → Bool} {held : Bool} {a0 : Option Addr} {len cap : Nat} {d : DataW H} {p : List MemPlace}
set_option maxRecDepth 100000 in
/-- A deed of its cells. -/
theorem dq_of {n : Nat} {cs : List Value} {y : DataW H × List MemPlace} (ht : DataW.trod enc Try.prog W base spare held n 42 cs = some y) (hw : ∀ k ∈ y.1.weights Try.prog 42, k ≤ reachBytes) :
    ∃ x : Dq, cs = x.cells ∧ OrdWf x.o := by
  obtain ⟨hlen, m, hfl⟩ := struct_inW Try.underlying42 ht hw
  have hlen2 : cs.length = 8 := by rw [hlen]; kernel_rfl
  have i1 : Try.prog.cellsOf 3 = 1 := by kernel_rfl
  have i2 : Try.prog.cellsOf 32 = 7 := by kernel_rfl
  match cs, hlen2 with
  | [a0, a1, a2, a3, a4, a5, a6, a7], _ =>
    obtain ⟨w0, t0, -⟩ : ∃ y, DataW.trod enc Try.prog W base spare held m 3 (([a0, a1, a2, a3, a4, a5, a6, a7].drop 0).take (Try.prog.cellsOf 3)) = some y ∧ _ := hfl 0 _ rfl
    obtain ⟨w1, t1, -⟩ : ∃ y, DataW.trod enc Try.prog W base spare held m 32 (([a0, a1, a2, a3, a4, a5, a6, a7].drop 1).take (Try.prog.cellsOf 32)) = some y ∧ _ := hfl 1 _ rfl
    rw [i1] at t0
    rw [i2] at t1
    simp only [List.drop_succ_cons, List.drop_zero, List.take_succ_cons, List.take_zero] at t0 t1
    obtain ⟨x0, e0, -, -⟩ := DataW.trod_int Try.underlying3 t0
    obtain ⟨o, ho, hwf⟩ := ord_of t1
    simp only [List.cons.injEq, and_true] at e0
    exact ⟨⟨x0, o⟩, by rw [Dq.cells, e0, ← ho], hwf⟩
theorem dqs_in (h : DataW.Trod enc Try.prog W base spare held 38 (.slice a0 len cap) d p) (hw : ∀ k ∈ d.weights Try.prog 38, k ≤ reachBytes) :
    ∃ l : List Dq, RdS Dq.cells 8 W a0 len l ∧ (∀ x ∈ l, OrdWf x.o) := by
  rcases elems_in Try.underlying38 (C := 8) (by kernel_rfl) h hw with ⟨rfl, rfl, rfl⟩ | ⟨a, n, rfl, _, _, hbb, hi⟩
  · exact ⟨[], ⟨rfl, Rd.none_⟩, by simp⟩
  · refine rdS_of_each Dq.cells_len fun i hil => ?_
    obtain ⟨cs, y, hl, hc, ht, hk⟩ := hi i hil
    obtain ⟨x, rfl, hwf⟩ := dq_of ht hk
    refine ⟨x, fun j u hu => ?_, hwf⟩
    have hj : j < 8 := by
      rcases Nat.lt_or_ge j 8 with h | h
      · exact h
      · rw [List.getElem?_eq_none (by rw [Dq.cells_len]; exact h)] at hu; cases hu
    rw [hc j hj, hu]
end
end Go.Proofs.Ytdmmpcdilkcfjaa
