/- A message that came in, as the walk takes it. -/
import Derived.Test.YtdmkhmejpgjioaaDoorRowIn
import Derived.Test.YtdmkhmejpgjioaaDoorNet
set_option linter.all false
namespace Go.Proofs.YtdmkhmejpgjioaaDoor
open Go.ChangeShapes Go.WideShapes Go.RowKit Agio

theorem struct_in {H : Type} {enc : TypeId × Value → H} {P : Program} {W : World} {base : Nat} {spare : Nat → Bool} {held : Bool} {t : TypeId} {fs : Array Field} {fuel : Nat} {cs : List Value} {x : DataW H × List MemPlace} (he : P.underlying t = some (.struct fs))
    (h : DataW.trod enc P W base spare held fuel t cs = some x) : cs.length = P.cellsOf t ∧ ∃ n, ∀ (j : Nat) (f : Field), fs[j]? = some f → ∃ y, DataW.trod enc P W base spare held n f.type ((cs.drop f.offset).take (P.cellsOf f.type)) = some y := by
  obtain ⟨ys, n, hn, hy, hlen, hyl, hfl⟩ := DataW.trod_struct he h
  refine ⟨hlen, n, fun j f hj => ?_⟩
  have hjl : j < ys.length := by have := (Array.getElem?_eq_some_iff.1 hj).1; omega
  exact ⟨ys[j], (hfl j f hj).trans (List.getElem?_eq_getElem hjl)⟩

set_option maxRecDepth 100000 in
theorem msg_in {H : Type} {enc : TypeId × Value → H} {W : World} {base : Nat} {spare : Nat → Bool} {held : Bool} {cs : Array Value} {d : DataW H} {p : List MemPlace}
    (h : DataW.Trod enc Tryd.prog W base spare held 56 (.agg cs) d p) : ∃ x : Mv, Value.agg cs = x.val ∧ RdB W x.A x.n x.b := by
  obtain ⟨fuel, hf⟩ := h
  obtain ⟨hlen, n, hfl⟩ := struct_in Tryd.underlying56 hf
  have hlen2 : (Value.agg cs).cells.toList.length = 10 := by rw [hlen]; kernel_rfl
  have hc : (Value.agg cs).cells = cs := rfl
  rw [hc] at hfl hlen2
  obtain ⟨l⟩ := cs
  have i1 : Tryd.prog.cellsOf 3 = 1 := by kernel_rfl
  have i2 : Tryd.prog.cellsOf 42 = 2 := by kernel_rfl
  have i3 : Tryd.prog.cellsOf 4 = 1 := by kernel_rfl
  have i4 : Tryd.prog.cellsOf 24 = 1 := by kernel_rfl
  match l, hlen2 with
  | [a0, a1, a2, a3, a4, a5, a6, a7, a8, a9], _ =>
    obtain ⟨w0, t0⟩ : ∃ y, DataW.trod enc Tryd.prog W base spare held n 3 (([a0, a1, a2, a3, a4, a5, a6, a7, a8, a9].drop 0).take (Tryd.prog.cellsOf 3)) = some y := hfl 0 _ rfl
    rw [i1] at t0
    obtain ⟨w1, t1⟩ : ∃ y, DataW.trod enc Tryd.prog W base spare held n 3 (([a0, a1, a2, a3, a4, a5, a6, a7, a8, a9].drop 1).take (Tryd.prog.cellsOf 3)) = some y := hfl 1 _ rfl
    rw [i1] at t1
    obtain ⟨w2, t2⟩ : ∃ y, DataW.trod enc Tryd.prog W base spare held n 3 (([a0, a1, a2, a3, a4, a5, a6, a7, a8, a9].drop 2).take (Tryd.prog.cellsOf 3)) = some y := hfl 2 _ rfl
    rw [i1] at t2
    obtain ⟨w3, t3⟩ : ∃ y, DataW.trod enc Tryd.prog W base spare held n 3 (([a0, a1, a2, a3, a4, a5, a6, a7, a8, a9].drop 3).take (Tryd.prog.cellsOf 3)) = some y := hfl 3 _ rfl
    rw [i1] at t3
    obtain ⟨w4, t4⟩ : ∃ y, DataW.trod enc Tryd.prog W base spare held n 42 (([a0, a1, a2, a3, a4, a5, a6, a7, a8, a9].drop 4).take (Tryd.prog.cellsOf 42)) = some y := hfl 4 _ rfl
    rw [i2] at t4
    obtain ⟨w5, t5⟩ : ∃ y, DataW.trod enc Tryd.prog W base spare held n 42 (([a0, a1, a2, a3, a4, a5, a6, a7, a8, a9].drop 6).take (Tryd.prog.cellsOf 42)) = some y := hfl 5 _ rfl
    rw [i2] at t5
    obtain ⟨w6, t6⟩ : ∃ y, DataW.trod enc Tryd.prog W base spare held n 4 (([a0, a1, a2, a3, a4, a5, a6, a7, a8, a9].drop 8).take (Tryd.prog.cellsOf 4)) = some y := hfl 6 _ rfl
    rw [i3] at t6
    obtain ⟨w7, t7⟩ : ∃ y, DataW.trod enc Tryd.prog W base spare held n 24 (([a0, a1, a2, a3, a4, a5, a6, a7, a8, a9].drop 9).take (Tryd.prog.cellsOf 24)) = some y := hfl 7 _ rfl
    rw [i4] at t7
    simp only [List.drop_succ_cons, List.drop_zero, List.take_succ_cons, List.take_zero] at t0 t1 t2 t3 t4 t5 t6 t7
    obtain ⟨x0, e0, -, -⟩ := DataW.trod_int Tryd.underlying3 t0
    obtain ⟨x1, e1, -, -⟩ := DataW.trod_int Tryd.underlying3 t1
    obtain ⟨x2, e2, -, -⟩ := DataW.trod_int Tryd.underlying3 t2
    obtain ⟨x3, e3, -, -⟩ := DataW.trod_int Tryd.underlying3 t3
    obtain ⟨y0, y1, n4, -, -, u0, u1⟩ := trod_struct2 Tryd.underlying42 t4
    obtain ⟨z0, z1, n5, -, -, s0, s1⟩ := trod_struct2 Tryd.underlying42 t5
    simp only [i1, List.drop_succ_cons, List.drop_zero, List.take_succ_cons, List.take_zero] at u0 u1 s0 s1
    obtain ⟨x4, e4, -, -⟩ := DataW.trod_int Tryd.underlying3 u0
    obtain ⟨x5, e5, -, -⟩ := DataW.trod_int Tryd.underlying3 u1
    obtain ⟨x6, e6, -, -⟩ := DataW.trod_int Tryd.underlying3 s0
    obtain ⟨x7, e7, -, -⟩ := DataW.trod_int Tryd.underlying3 s1
    obtain ⟨x8, e8, -⟩ := DataW.trod_bool Tryd.underlying4 t6
    simp only [List.cons.injEq, and_true] at e0 e1 e2 e3 e4 e5 e6 e7 e8
    obtain ⟨A, m, c, e9⟩ : ∃ A m c, a9 = .slice A m c := by
      rcases open_ints Tryd.underlying24 Tryd.underlying5 (by kernel_rfl) t7 with ⟨hcs, _⟩ | ⟨x, l, c, zs, hcs, _⟩
      · simp at hcs; exact ⟨_, _, _, hcs⟩
      · simp at hcs; exact ⟨_, _, _, hcs⟩
    subst e9
    obtain ⟨b, hb, _⟩ := bytes_in ⟨n, t7⟩
    refine ⟨⟨x0, x1, x2, x3, x4, x5, x6, x7, x8, A, m, c, b⟩, ?_, hb⟩
    rw [Mv.val_eq]
    simp only [e0, e1, e2, e3, e4, e5, e6, e7, e8]
end Go.Proofs.YtdmkhmejpgjioaaDoor
