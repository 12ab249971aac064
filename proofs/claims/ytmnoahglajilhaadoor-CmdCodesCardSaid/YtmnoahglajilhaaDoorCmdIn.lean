/- A command that came in, as the walk takes it. -/
import Derived.Test.YtmnoahglajilhaaDoorLaid
import Derived.Test.YtmnoahglajilhaaDoorCmd3
import Derived.Deep.Fields
set_option linter.all false
namespace Go.Proofs.YtmnoahglajilhaaDoor
open Go.ChangeShapes Go.WideShapes Go.RowKit Go.Deep Agio

/-- A struct by value whose fields have one cell each. -/
theorem open_agg_fields {H : Type} {enc : TypeId × Value → H} {P : Program} {w : World} {base : Nat} {spare : Nat → Bool} {held : Bool} {t : TypeId} {fs : Array Field} {cs : Array Value} {d : DataW H} {p : List MemPlace} (he : P.underlying t = some (.struct fs))
    (hone : oneCellFields P fs = true) (hC : P.cellsOf t = fs.size) (h : DataW.Trod enc P w base spare held t (.agg cs) d p) :
    (Value.agg cs).cells.toList.length = fs.size ∧ ∃ (ys : List (DataW H × List MemPlace)) (n : Nat), d = .agg (ys.map (·.1)) ∧ p = ys.flatMap (·.2) ∧ ys.length = fs.size ∧
      ∀ (j : Nat) (f : Field), fs[j]? = some f → ∃ (v : Value) (y : DataW H × List MemPlace), (Value.agg cs).cells.toList[j]? = some v ∧ ys[j]? = some y ∧ DataW.trod enc P w base spare held n f.type [v] = some y := by
  obtain ⟨fuel, hf⟩ := h
  obtain ⟨ys, n, hn, hy, hlen, hyl, hfl⟩ := DataW.trod_struct he hf
  simp only [Prod.mk.injEq] at hy
  have hlen2 : (Value.agg cs).cells.toList.length = fs.size := by rw [← hC]; exact hlen
  refine ⟨hlen2, ys, n, hy.1, hy.2, hyl, fun j f hj => ?_⟩
  obtain ⟨ho, hk⟩ := hone_of hone j f hj
  have hjl : j < fs.size := (Array.getElem?_eq_some_iff.1 hj).1
  have h1 := hfl j f hj
  rw [ho, hk] at h1
  have hjc : j < (Value.agg cs).cells.toList.length := by omega
  have hone' : ((Value.agg cs).cells.toList.drop j).take 1 = [(Value.agg cs).cells.toList[j]] := by
    rw [List.drop_eq_getElem_cons hjc]
    rfl
  rw [hone'] at h1
  have hys : ys[j]? = some (ys[j]'(by omega)) := List.getElem?_eq_getElem (by omega)
  exact ⟨_, _, List.getElem?_eq_getElem hjc, hys, h1.trans hys⟩

theorem Cm.val_eq' (c : Cm) : c.val = .agg #[.int .i64 c.k, .int .i64 c.cl, .int .i64 c.sq, .int .i64 c.tm, .int .i64 c.s, .int .i64 c.a, .int .i64 c.p, .int .i64 c.q, .int .i64 c.i] := rfl
set_option maxRecDepth 100000 in
theorem cmd_in {H : Type} {enc : TypeId × Value → H} {W : World} {base : Nat} {spare : Nat → Bool} {held : Bool} {cs : Array Value} {d : DataW H} {p : List MemPlace} (hs : cs.size = 9)
    (h : DataW.Trod enc Tryd.prog W base spare held 23 (.agg cs) d p) : ∃ c : Cm, Value.agg cs = c.val := by
  obtain ⟨hl, ys, n, hd, _, hyl, hf⟩ := open_agg_fields Tryd.underlying23 (by kernel_rfl) (by kernel_rfl) h
  have hc : (Value.agg cs).cells = cs := rfl
  rw [hc] at hf
  obtain ⟨v0, y0, c0, -, t0⟩ := hf 0 _ rfl
  obtain ⟨x0, e0, -, -⟩ := DataW.trod_int Tryd.underlying3 t0
  obtain ⟨v1, y1, c1, -, t1⟩ := hf 1 _ rfl
  obtain ⟨x1, e1, -, -⟩ := DataW.trod_int Tryd.underlying3 t1
  obtain ⟨v2, y2, c2, -, t2⟩ := hf 2 _ rfl
  obtain ⟨x2, e2, -, -⟩ := DataW.trod_int Tryd.underlying2 t2
  obtain ⟨v3, y3, c3, -, t3⟩ := hf 3 _ rfl
  obtain ⟨x3, e3, -, -⟩ := DataW.trod_int Tryd.underlying2 t3
  obtain ⟨v4, y4, c4, -, t4⟩ := hf 4 _ rfl
  obtain ⟨x4, e4, -, -⟩ := DataW.trod_int Tryd.underlying3 t4
  obtain ⟨v5, y5, c5, -, t5⟩ := hf 5 _ rfl
  obtain ⟨x5, e5, -, -⟩ := DataW.trod_int Tryd.underlying3 t5
  obtain ⟨v6, y6, c6, -, t6⟩ := hf 6 _ rfl
  obtain ⟨x6, e6, -, -⟩ := DataW.trod_int Tryd.underlying2 t6
  obtain ⟨v7, y7, c7, -, t7⟩ := hf 7 _ rfl
  obtain ⟨x7, e7, -, -⟩ := DataW.trod_int Tryd.underlying2 t7
  obtain ⟨v8, y8, c8, -, t8⟩ := hf 8 _ rfl
  obtain ⟨x8, e8, -, -⟩ := DataW.trod_int Tryd.underlying2 t8
  simp at e0 e1 e2 e3 e4 e5 e6 e7 e8
  obtain ⟨l⟩ := cs
  match l, hs with
  | [a0, a1, a2, a3, a4, a5, a6, a7, a8], _ =>
    simp at c0 c1 c2 c3 c4 c5 c6 c7 c8
    refine ⟨⟨x0, x1, x2, x3, x4, x5, x6, x7, x8⟩, ?_⟩
    rw [Cm.val_eq']
    simp only [c0, e0, c1, e1, c2, e2, c3, e3, c4, e4, c5, e5, c6, e6, c7, e7, c8, e8]
end Go.Proofs.YtmnoahglajilhaaDoor
