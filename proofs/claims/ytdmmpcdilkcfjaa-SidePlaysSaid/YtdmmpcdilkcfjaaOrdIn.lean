/- An order that came in, as the walk takes it. -/
import Derived.Test.YtdmmpcdilkcfjaaRowIn
import Derived.Test.YtdmmpcdilkcfjaaElemsIn
import Derived.Test.YtdmmpcdilkcfjaaSide1
namespace Go.Proofs.Ytdmmpcdilkcfjaa
open Go.ChangeShapes Go.WideShapes Go.RowKit Go.Deep Agio

/-- Its numbers are numbers of 64 bits. -/
structure OrdWf (o : Ord) : Prop where
  id : (Lit.int .i64 o.id).wf = true
  client : (Lit.int .i64 o.client).wf = true
  side : (Lit.int .i64 o.side).wf = true
  price : (Lit.int .i64 o.price).wf = true
  qty : (Lit.int .i64 o.qty).wf = true
  off : (Lit.int .i64 o.off).wf = true
section
variable {H : Type} {enc : TypeId × Value → H} {W : World} {base : Nat} {spare : Nat → Bool} {held : Bool} {a0 : Option Addr} {len cap : Nat} {d : DataW H} {p : List MemPlace}
set_option maxRecDepth 100000 in
/-- An order of its cells. -/
theorem ord_of {n : Nat} {cs : List Value} {y : DataW H × List MemPlace} (ht : DataW.trod enc Try.prog W base spare held n 32 cs = some y) :
    ∃ x : Ord, cs = x.cells ∧ OrdWf x := by
  obtain ⟨ys, m, hn, hy, hlen, hyl, hfl⟩ := DataW.trod_struct Try.underlying32 ht
  have hfl' : ∀ (j : Nat) (f : Field), _[j]? = some f → ∃ y, DataW.trod enc Try.prog W base spare held m f.type ((cs.drop f.offset).take (Try.prog.cellsOf f.type)) = some y := fun j f hj => ⟨_, (hfl j f hj).trans (List.getElem?_eq_getElem (by have := (Array.getElem?_eq_some_iff.1 hj).1; omega))⟩
  have hlen2 : cs.length = 7 := by rw [hlen]; kernel_rfl
  have i1 : Try.prog.cellsOf 3 = 1 := by kernel_rfl
  have i2 : Try.prog.cellsOf 2 = 1 := by kernel_rfl
  have i3 : Try.prog.cellsOf 4 = 1 := by kernel_rfl
  match cs, hlen2 with
  | [a0, a1, a2, a3, a4, a5, a6], _ =>
    obtain ⟨w0, t0⟩ : ∃ y, DataW.trod enc Try.prog W base spare held m 2 (([a0, a1, a2, a3, a4, a5, a6].drop 0).take (Try.prog.cellsOf 2)) = some y := hfl' 0 _ rfl
    obtain ⟨w1, t1⟩ : ∃ y, DataW.trod enc Try.prog W base spare held m 3 (([a0, a1, a2, a3, a4, a5, a6].drop 1).take (Try.prog.cellsOf 3)) = some y := hfl' 1 _ rfl
    obtain ⟨w2, t2⟩ : ∃ y, DataW.trod enc Try.prog W base spare held m 3 (([a0, a1, a2, a3, a4, a5, a6].drop 2).take (Try.prog.cellsOf 3)) = some y := hfl' 2 _ rfl
    obtain ⟨w3, t3⟩ : ∃ y, DataW.trod enc Try.prog W base spare held m 2 (([a0, a1, a2, a3, a4, a5, a6].drop 3).take (Try.prog.cellsOf 2)) = some y := hfl' 3 _ rfl
    obtain ⟨w4, t4⟩ : ∃ y, DataW.trod enc Try.prog W base spare held m 2 (([a0, a1, a2, a3, a4, a5, a6].drop 4).take (Try.prog.cellsOf 2)) = some y := hfl' 4 _ rfl
    obtain ⟨w5, t5⟩ : ∃ y, DataW.trod enc Try.prog W base spare held m 4 (([a0, a1, a2, a3, a4, a5, a6].drop 5).take (Try.prog.cellsOf 4)) = some y := hfl' 5 _ rfl
    obtain ⟨w6, t6⟩ : ∃ y, DataW.trod enc Try.prog W base spare held m 2 (([a0, a1, a2, a3, a4, a5, a6].drop 6).take (Try.prog.cellsOf 2)) = some y := hfl' 6 _ rfl
    rw [i1] at t1 t2
    rw [i2] at t0 t3 t4 t6
    rw [i3] at t5
    simp only [List.drop_succ_cons, List.drop_zero, List.take_succ_cons, List.take_zero] at t0 t1 t2 t3 t4 t5 t6
    obtain ⟨x0, e0, -, h0⟩ := DataW.trod_int Try.underlying2 t0
    obtain ⟨x1, e1, -, h1⟩ := DataW.trod_int Try.underlying3 t1
    obtain ⟨x2, e2, -, h2⟩ := DataW.trod_int Try.underlying3 t2
    obtain ⟨x3, e3, -, h3⟩ := DataW.trod_int Try.underlying2 t3
    obtain ⟨x4, e4, -, h4⟩ := DataW.trod_int Try.underlying2 t4
    obtain ⟨x5, e5, -⟩ := DataW.trod_bool Try.underlying4 t5
    obtain ⟨x6, e6, -, h6⟩ := DataW.trod_int Try.underlying2 t6
    simp only [List.cons.injEq, and_true] at e0 e1 e2 e3 e4 e5 e6
    exact ⟨⟨x0, x1, x2, x3, x4, x5, x6⟩, by simp [Ord.cells, e0, e1, e2, e3, e4, e5, e6], ⟨h0, h1, h2, h3, h4, h6⟩⟩
theorem ord_in {cs : Array Value} (h : DataW.Trod enc Try.prog W base spare held 32 (.agg cs) d p) : ∃ x : Ord, Value.agg cs = x.val ∧ OrdWf x := by
  obtain ⟨fuel, hf⟩ := h
  obtain ⟨x, hx, hw⟩ := ord_of hf
  have hc : (Value.agg cs).cells = cs := rfl
  rw [hc] at hx
  refine ⟨x, ?_, hw⟩
  show Value.agg cs = .agg x.cells.toArray
  rw [← hx]
end
end Go.Proofs.Ytdmmpcdilkcfjaa
