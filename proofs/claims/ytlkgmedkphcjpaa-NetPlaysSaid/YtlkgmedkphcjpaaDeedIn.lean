/- Deeds on a net that came in. -/
import Derived.Test.YtlkgmedkphcjpaaSlicesIn
import Derived.Test.YtlkgmedkphcjpaaPlayN
namespace Go.Proofs.Ytlkgmedkphcjpaa
open Go.ChangeShapes Go.WideShapes Go.RowKit Go.Deep Agio

section
variable {H : Type} {enc : TypeId × Value → H} {W : World} {base : Nat} {spare : Nat → Bool} {held : Bool} {a0 : Option Addr} {len cap : Nat} {d : DataW H} {p : List MemPlace}
set_option maxRecDepth 100000 in
/-- A deed of its cells. -/
theorem deed_of {n : Nat} {cs : List Value} {y : DataW H × List MemPlace} (ht : DataW.trod enc Try.prog W base spare held n 29 cs = some y) (hw : ∀ k ∈ y.1.weights Try.prog 29, k ≤ reachBytes) :
    ∃ x : Dd, cs = x.cells ∧ RdB W x.A x.n x.b ∧ x.b.length ≤ 140737488351232 := by
  obtain ⟨hlen, m, hfl⟩ := struct_inW Try.underlying29 ht hw
  have hlen2 : cs.length = 6 := by rw [hlen]; kernel_rfl
  have i1 : Try.prog.cellsOf 3 = 1 := by kernel_rfl
  have i3 : Try.prog.cellsOf 5 = 1 := by kernel_rfl
  have i4 : Try.prog.cellsOf 27 = 1 := by kernel_rfl
  match cs, hlen2 with
  | [a0, a1, a2, a3, a4, a5], _ =>
    obtain ⟨w0, t0, -⟩ : ∃ y, DataW.trod enc Try.prog W base spare held m 3 (([a0, a1, a2, a3, a4, a5].drop 0).take (Try.prog.cellsOf 3)) = some y ∧ _ := hfl 0 _ rfl
    obtain ⟨w1, t1, -⟩ : ∃ y, DataW.trod enc Try.prog W base spare held m 3 (([a0, a1, a2, a3, a4, a5].drop 1).take (Try.prog.cellsOf 3)) = some y ∧ _ := hfl 1 _ rfl
    obtain ⟨w2, t2, -⟩ : ∃ y, DataW.trod enc Try.prog W base spare held m 3 (([a0, a1, a2, a3, a4, a5].drop 2).take (Try.prog.cellsOf 3)) = some y ∧ _ := hfl 2 _ rfl
    obtain ⟨w3, t3, -⟩ : ∃ y, DataW.trod enc Try.prog W base spare held m 3 (([a0, a1, a2, a3, a4, a5].drop 3).take (Try.prog.cellsOf 3)) = some y ∧ _ := hfl 3 _ rfl
    obtain ⟨w4, t4, -⟩ : ∃ y, DataW.trod enc Try.prog W base spare held m 5 (([a0, a1, a2, a3, a4, a5].drop 4).take (Try.prog.cellsOf 5)) = some y ∧ _ := hfl 4 _ rfl
    obtain ⟨w7, t7, hk⟩ : ∃ y, DataW.trod enc Try.prog W base spare held m 27 (([a0, a1, a2, a3, a4, a5].drop 5).take (Try.prog.cellsOf 27)) = some y ∧ ∀ k ∈ y.1.weights Try.prog 27, k ≤ reachBytes := hfl 5 _ rfl
    rw [i1] at t0 t1 t2 t3
    rw [i3] at t4
    rw [i4] at t7
    simp only [List.drop_succ_cons, List.drop_zero, List.take_succ_cons, List.take_zero] at t0 t1 t2 t3 t4 t7
    obtain ⟨x0, e0, -, -⟩ := DataW.trod_int Try.underlying3 t0
    obtain ⟨x1, e1, -, -⟩ := DataW.trod_int Try.underlying3 t1
    obtain ⟨x2, e2, -, -⟩ := DataW.trod_int Try.underlying3 t2
    obtain ⟨x3, e3, -, -⟩ := DataW.trod_int Try.underlying3 t3
    obtain ⟨x4, e4, -, hwf⟩ := DataW.trod_int Try.underlying5 t4
    simp only [List.cons.injEq, and_true] at e0 e1 e2 e3 e4
    have hb := bounds_u8 hwf
    obtain ⟨v, rfl⟩ : ∃ v : UInt8, x4 = (v.toNat : Int) := ⟨UInt8.ofNat x4.toNat, by simp; omega⟩
    obtain ⟨A, k, c, rfl⟩ := slice_form t7
    obtain ⟨b, hb, _, _, hbl⟩ := bytesW_in (d := w7.1) (p := w7.2) ⟨m, t7⟩ hk
    exact ⟨⟨x0, x1, x2, x3, v, A, k, c, b⟩, by simp [Dd.cells, e0, e1, e2, e3, e4], hb, hbl⟩
theorem deeds_in (h : DataW.Trod enc Try.prog W base spare held 22 (.slice a0 len cap) d p) (hw : ∀ k ∈ d.weights Try.prog 22, k ≤ reachBytes) :
    ∃ l : List Dd, RdS Dd.cells 6 W a0 len l ∧ (∀ x ∈ l, RdB W x.A x.n x.b ∧ x.b.length ≤ 140737488351232) := by
  rcases elems_in Try.underlying22 (C := 6) (by kernel_rfl) h hw with ⟨rfl, rfl, rfl⟩ | ⟨a, n, rfl, _, _, hbb, hi⟩
  · exact ⟨[], ⟨rfl, Rd.none_⟩, by simp⟩
  · refine rdS_of_each Dd.cells_len fun i hil => ?_
    obtain ⟨cs, y, hl, hc, ht, hk⟩ := hi i hil
    obtain ⟨x, rfl, hb, hbl⟩ := deed_of ht hk
    refine ⟨x, fun j u hu => ?_, hb, hbl⟩
    have hj : j < 6 := by
      rcases Nat.lt_or_ge j 6 with h | h
      · exact h
      · rw [List.getElem?_eq_none (by rw [Dd.cells_len]; exact h)] at hu; cases hu
    rw [hc j hj, hu]
end
end Go.Proofs.Ytlkgmedkphcjpaa
