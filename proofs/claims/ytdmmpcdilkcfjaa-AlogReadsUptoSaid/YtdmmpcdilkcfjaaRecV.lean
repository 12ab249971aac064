/- Records that came in, their slots' numbers being numbers of 64 bits. -/
import Derived.Test.YtdmmpcdilkcfjaaRowIn
import Derived.Test.YtdmmpcdilkcfjaaElemsIn
import Derived.Test.YtdmmpcdilkcfjaaAlog
import Derived.Deep.Slices
import Derived.SizedLaws
namespace Go.Proofs.Ytdmmpcdilkcfjaa
open Go.ChangeShapes Go.WideShapes Go.RowKit Go.Deep Agio

section
variable {H : Type} {enc : TypeId × Value → H} {W : World} {base : Nat} {spare : Nat → Bool} {held : Bool} {a0 : Option Addr} {len cap : Nat} {d : DataW H} {p : List MemPlace}
theorem bytesV_in (h : DataW.Trod enc Try.prog W base spare held 22 (.slice a0 len cap) d p) (hw : ∀ k ∈ d.weights Try.prog 22, k ≤ reachBytes) :
    ∃ b : List UInt8, RdB W a0 len b ∧ len ≤ cap ∧ cap ≤ maxLen ∧ b.length ≤ 140737488351232 := by
  obtain ⟨b, h1, h2, h3, _, h5⟩ := bytes_in h
  refine ⟨b, h1, h2, h3, ?_⟩
  rcases h5 with ⟨_, rfl⟩ | ⟨sp, rfl⟩
  · simp
  · have := hw ((((b.map fun c => DataW.lit (.int .u8 (c.toNat : Int))) : List (DataW H)).length + sp.length) * Try.prog.bytesOf 5) (by simp [DataW.weights, Try.underlying22])
    rw [show Try.prog.bytesOf 5 = 1 by kernel_rfl] at this
    simp only [List.length_map, reachBytes] at this
    omega
theorem slice_formV {fuel : Nat} {v : Value} {x : DataW H × List MemPlace} (h : DataW.trod enc Try.prog W base spare held fuel 22 [v] = some x) : ∃ A n c, v = .slice A n c := by
  rcases open_ints Try.underlying22 Try.underlying5 (by kernel_rfl) h with ⟨hcs, _⟩ | ⟨x, l, c, zs, hcs, _⟩
  · simp at hcs; exact ⟨_, _, _, hcs⟩
  · simp at hcs; exact ⟨_, _, _, hcs⟩
set_option maxRecDepth 100000 in
/-- A record of its cells. -/
theorem rec_ofV {n : Nat} {cs : List Value} {y : DataW H × List MemPlace} (ht : DataW.trod enc Try.prog W base spare held n 77 cs = some y) (hw : ∀ k ∈ y.1.weights Try.prog 77, k ≤ reachBytes) :
    ∃ x : Rv, cs = x.cells ∧ RdB W x.A x.n x.b ∧ x.b.length ≤ 140737488351232 ∧ (Lit.int .i64 x.s).wf = true := by
  obtain ⟨hlen, m, hfl⟩ := struct_inW Try.underlying77 ht hw
  have hlen2 : cs.length = 5 := by rw [hlen]; kernel_rfl
  have i1 : Try.prog.cellsOf 3 = 1 := by kernel_rfl
  have i2 : Try.prog.cellsOf 75 = 2 := by kernel_rfl
  have i4 : Try.prog.cellsOf 22 = 1 := by kernel_rfl
  match cs, hlen2 with
  | [a0, a1, a2, a3, a4], _ =>
    obtain ⟨w0, t0, -⟩ : ∃ y, DataW.trod enc Try.prog W base spare held m 3 (([a0, a1, a2, a3, a4].drop 0).take (Try.prog.cellsOf 3)) = some y ∧ _ := hfl 0 _ rfl
    rw [i1] at t0
    obtain ⟨w1, t1, -⟩ : ∃ y, DataW.trod enc Try.prog W base spare held m 3 (([a0, a1, a2, a3, a4].drop 1).take (Try.prog.cellsOf 3)) = some y ∧ _ := hfl 1 _ rfl
    rw [i1] at t1
    obtain ⟨w4, t4, -⟩ : ∃ y, DataW.trod enc Try.prog W base spare held m 75 (([a0, a1, a2, a3, a4].drop 2).take (Try.prog.cellsOf 75)) = some y ∧ _ := hfl 2 _ rfl
    rw [i2] at t4
    obtain ⟨w7, t7, hk⟩ : ∃ y, DataW.trod enc Try.prog W base spare held m 22 (([a0, a1, a2, a3, a4].drop 4).take (Try.prog.cellsOf 22)) = some y ∧ ∀ k ∈ y.1.weights Try.prog 22, k ≤ reachBytes := hfl 3 _ rfl
    rw [i4] at t7
    simp only [List.drop_succ_cons, List.drop_zero, List.take_succ_cons, List.take_zero] at t0 t1 t4 t7
    obtain ⟨x0, e0, -, -⟩ := DataW.trod_int Try.underlying3 t0
    obtain ⟨x1, e1, -, hwf⟩ := DataW.trod_int Try.underlying3 t1
    obtain ⟨y0, y1, n4, -, -, u0, u1⟩ := trod_struct2 Try.underlying75 t4
    simp only [i1, List.drop_succ_cons, List.drop_zero, List.take_succ_cons, List.take_zero] at u0 u1
    obtain ⟨x2, e2, -, -⟩ := DataW.trod_int Try.underlying3 u0
    obtain ⟨x3, e3, -, -⟩ := DataW.trod_int Try.underlying3 u1
    simp only [List.cons.injEq, and_true] at e0 e1 e2 e3
    obtain ⟨A, k, c, rfl⟩ := slice_formV t7
    obtain ⟨b, hb, _, _, hbl⟩ := bytesV_in (d := w7.1) (p := w7.2) ⟨m, t7⟩ hk
    exact ⟨⟨x0, x1, x2, x3, A, k, c, b⟩, by simp [Rv.cells, e0, e1, e2, e3], hb, hbl, hwf⟩
theorem rec_inV {cs : Array Value} (h : DataW.Trod enc Try.prog W base spare held 77 (.agg cs) d p) (hw : ∀ k ∈ d.weights Try.prog 77, k ≤ reachBytes) :
    ∃ x : Rv, Value.agg cs = x.val ∧ RdB W x.A x.n x.b ∧ x.b.length ≤ 140737488351232 ∧ (Lit.int .i64 x.s).wf = true := by
  obtain ⟨fuel, hf⟩ := h
  obtain ⟨x, hx, hb, hl⟩ := rec_ofV hf hw
  have hc : (Value.agg cs).cells = cs := rfl
  rw [hc] at hx
  exact ⟨x, by rw [Rv.val, ← hx], hb, hl⟩
theorem recs_inV (h : DataW.Trod enc Try.prog W base spare held 61 (.slice a0 len cap) d p) (hw : ∀ k ∈ d.weights Try.prog 61, k ≤ reachBytes) :
    ∃ l : List Rv, RdS Rv.cells 5 W a0 len l ∧ (∀ x ∈ l, RdB W x.A x.n x.b ∧ x.b.length ≤ 140737488351232 ∧ (Lit.int .i64 x.s).wf = true) ∧ l.length * 56 ≤ 140737488351232 := by
  rcases elems_in Try.underlying61 (C := 5) (by kernel_rfl) h hw with ⟨rfl, rfl, rfl⟩ | ⟨a, n, rfl, _, _, hbb, hi⟩
  · exact ⟨[], ⟨rfl, Rd.none_⟩, by simp, by simp⟩
  · obtain ⟨l, hl, he⟩ : ∃ l : List Rv, RdS Rv.cells 5 W (some a) len l ∧ ∀ x ∈ l, RdB W x.A x.n x.b ∧ x.b.length ≤ 140737488351232 ∧ (Lit.int .i64 x.s).wf = true := by
      refine rdS_of_each Rv.cells_len fun i hil => ?_
      obtain ⟨cs, y, hl, hc, ht, hk⟩ := hi i hil
      obtain ⟨x, rfl, hb, hbl⟩ := rec_ofV ht hk
      refine ⟨x, fun j u hu => ?_, hb, hbl⟩
      have hj : j < 5 := by
        rcases Nat.lt_or_ge j 5 with h | h
        · exact h
        · rw [List.getElem?_eq_none (by rw [Rv.cells_len]; exact h)] at hu; cases hu
      rw [hc j hj, hu]
    refine ⟨l, hl, he, ?_⟩
    rw [show Try.prog.bytesOf 77 = 56 by kernel_rfl] at hbb
    rw [← hl.len]; simpa [reachBytes] using hbb
end
end Go.Proofs.Ytdmmpcdilkcfjaa
