/- A record that came in, as the walk takes it; slices of whatever elements. -/
import Derived.Test.YtdmkhmejpgjioaaDoorMsgIn
import Derived.Test.YtdmkhmejpgjioaaDoorAlog
import Derived.Deep.Slices
import Derived.SizedLaws
set_option linter.all false
namespace Go.Proofs.YtdmkhmejpgjioaaDoor
open Go.ChangeShapes Go.WideShapes Go.RowKit Go.Deep Agio

section
variable {H : Type} {enc : TypeId × Value → H} {P : Program} {W : World} {base : Nat} {spare : Nat → Bool} {held : Bool}
theorem weightsAll_mem {e : TypeId} {d : DataW H} : ∀ {l : List (DataW H)}, d ∈ l → ∀ k ∈ d.weights P e, k ∈ DataW.weightsAll P e l
  | [], h, _, _ => by cases h
  | x :: l, h, k, hk => by
    simp only [DataW.weightsAll, List.mem_append]
    rcases List.mem_cons.1 h with rfl | h
    · exact .inl hk
    · exact .inr (weightsAll_mem h k hk)
theorem elems_in {t e : TypeId} {C : Nat} {a0 : Option Addr} {len cap : Nat} {d : DataW H} {p : List MemPlace} (ht : P.underlying t = some (.slice e)) (hC : P.cellsOf e = C)
    (h : DataW.Trod enc P W base spare held t (.slice a0 len cap) d p) (hw : ∀ k ∈ d.weights P t, k ≤ reachBytes) :
    (a0 = none ∧ len = 0 ∧ cap = 0) ∨ ∃ a n, a0 = some a ∧ len ≤ cap ∧ cap ≤ maxLen ∧ len * P.bytesOf e ≤ reachBytes ∧
      ∀ i, i < len → ∃ cs y, cs.length = C ∧ (∀ j, j < C → W.cell? (a.add (i * C + j)) = cs[j]?) ∧ DataW.trod enc P W base spare held n e cs = some y ∧ ∀ k ∈ y.1.weights P e, k ≤ reachBytes := by
  obtain ⟨fuel, hf⟩ := h
  rcases open_slice ht hf with ⟨hcs, hx⟩ | ⟨a, len', cap', m, n, D, Pl, hcs, _, hl, hm, hmm, hx, hi⟩
  · simp [Value.cells] at hcs; exact .inl hcs
  · simp [Value.cells] at hcs
    obtain ⟨rfl, rfl, rfl⟩ := hcs
    simp only [Prod.mk.injEq] at hx
    have hlm : len ≤ m := by rw [hmm]; split <;> omega
    have hd := hx.1
    subst hd
    simp only [DataW.weights, ht] at hw
    have hwA : ∀ i, i < len → ∀ k ∈ (D i).weights P e, k ≤ reachBytes := fun i hil k hk => hw k (by
      simp only [List.mem_cons, List.mem_append]
      exact .inr (.inl (weightsAll_mem (List.mem_map.2 ⟨i, List.mem_range.2 hil, rfl⟩) k hk)))
    refine .inr ⟨a, n, rfl, hl, hm, ?_, fun i hil => ?_⟩
    · have := hw _ (List.mem_cons_self ..)
      simp only [List.length_map, List.length_range] at this
      exact Nat.le_trans (Nat.mul_le_mul_right _ (by omega)) this
    · obtain ⟨cs', hc, ht'⟩ := hi i (by omega)
      rw [hC] at hc
      obtain ⟨_, hcl, hat⟩ := World.cells?_some hc
      exact ⟨cs', _, hcl, fun j hj => by rw [← hat j hj, Go.Deep.add_add], ht', hwA i hil⟩
theorem struct_inW {t : TypeId} {fs : Array Field} {fuel : Nat} {cs : List Value} {x : DataW H × List MemPlace} (he : P.underlying t = some (.struct fs))
    (h : DataW.trod enc P W base spare held fuel t cs = some x) (hw : ∀ k ∈ x.1.weights P t, k ≤ reachBytes) :
    cs.length = P.cellsOf t ∧ ∃ n, ∀ (j : Nat) (f : Field), fs[j]? = some f → ∃ y, DataW.trod enc P W base spare held n f.type ((cs.drop f.offset).take (P.cellsOf f.type)) = some y ∧ ∀ k ∈ y.1.weights P f.type, k ≤ reachBytes := by
  obtain ⟨ys, n, hn, hy, hlen, hyl, hfl⟩ := DataW.trod_struct he h
  subst hy
  simp only [DataW.weights, he] at hw
  refine ⟨hlen, n, fun j f hj => ?_⟩
  have hjl : j < ys.length := by have := (Array.getElem?_eq_some_iff.1 hj).1; omega
  refine ⟨ys[j], (hfl j f hj).trans (List.getElem?_eq_getElem hjl), fun k hk => hw k (DataW.weights_mem_each (j := j) (t := f.type) (d := ys[j].1) ?_ ?_ k hk)⟩
  · rw [List.getElem?_map, Array.getElem?_toList, hj]; rfl
  · rw [List.getElem?_map, List.getElem?_eq_getElem hjl]; rfl
end

section
variable {H : Type} {enc : TypeId × Value → H} {W : World} {base : Nat} {spare : Nat → Bool} {held : Bool} {a0 : Option Addr} {len cap : Nat} {d : DataW H} {p : List MemPlace}
theorem bytesW_in (h : DataW.Trod enc Tryd.prog W base spare held 24 (.slice a0 len cap) d p) (hw : ∀ k ∈ d.weights Tryd.prog 24, k ≤ reachBytes) :
    ∃ b : List UInt8, RdB W a0 len b ∧ len ≤ cap ∧ cap ≤ maxLen ∧ b.length ≤ 140737488351232 := by
  obtain ⟨b, h1, h2, h3, _, h5⟩ := bytes_in h
  refine ⟨b, h1, h2, h3, ?_⟩
  rcases h5 with ⟨_, rfl⟩ | ⟨sp, rfl⟩
  · simp
  · have := hw ((((b.map fun c => DataW.lit (.int .u8 (c.toNat : Int))) : List (DataW H)).length + sp.length) * Tryd.prog.bytesOf 5) (by simp [DataW.weights, Tryd.underlying24])
    rw [show Tryd.prog.bytesOf 5 = 1 by kernel_rfl] at this
    simp only [List.length_map, reachBytes] at this
    omega
theorem slice_form {fuel : Nat} {v : Value} {x : DataW H × List MemPlace} (h : DataW.trod enc Tryd.prog W base spare held fuel 24 [v] = some x) : ∃ A n c, v = .slice A n c := by
  rcases open_ints Tryd.underlying24 Tryd.underlying5 (by kernel_rfl) h with ⟨hcs, _⟩ | ⟨x, l, c, zs, hcs, _⟩
  · simp at hcs; exact ⟨_, _, _, hcs⟩
  · simp at hcs; exact ⟨_, _, _, hcs⟩
set_option maxRecDepth 100000 in
/-- A record of its cells. -/
theorem rec_of {n : Nat} {cs : List Value} {y : DataW H × List MemPlace} (ht : DataW.trod enc Tryd.prog W base spare held n 44 cs = some y) (hw : ∀ k ∈ y.1.weights Tryd.prog 44, k ≤ reachBytes) :
    ∃ x : Rv, cs = x.cells ∧ RdB W x.A x.n x.b ∧ x.b.length ≤ 140737488351232 := by
  obtain ⟨hlen, m, hfl⟩ := struct_inW Tryd.underlying44 ht hw
  have hlen2 : cs.length = 5 := by rw [hlen]; kernel_rfl
  have i1 : Tryd.prog.cellsOf 3 = 1 := by kernel_rfl
  have i2 : Tryd.prog.cellsOf 42 = 2 := by kernel_rfl
  have i4 : Tryd.prog.cellsOf 24 = 1 := by kernel_rfl
  match cs, hlen2 with
  | [a0, a1, a2, a3, a4], _ =>
    obtain ⟨w0, t0, -⟩ : ∃ y, DataW.trod enc Tryd.prog W base spare held m 3 (([a0, a1, a2, a3, a4].drop 0).take (Tryd.prog.cellsOf 3)) = some y ∧ _ := hfl 0 _ rfl
    rw [i1] at t0
    obtain ⟨w1, t1, -⟩ : ∃ y, DataW.trod enc Tryd.prog W base spare held m 3 (([a0, a1, a2, a3, a4].drop 1).take (Tryd.prog.cellsOf 3)) = some y ∧ _ := hfl 1 _ rfl
    rw [i1] at t1
    obtain ⟨w4, t4, -⟩ : ∃ y, DataW.trod enc Tryd.prog W base spare held m 42 (([a0, a1, a2, a3, a4].drop 2).take (Tryd.prog.cellsOf 42)) = some y ∧ _ := hfl 2 _ rfl
    rw [i2] at t4
    obtain ⟨w7, t7, hk⟩ : ∃ y, DataW.trod enc Tryd.prog W base spare held m 24 (([a0, a1, a2, a3, a4].drop 4).take (Tryd.prog.cellsOf 24)) = some y ∧ ∀ k ∈ y.1.weights Tryd.prog 24, k ≤ reachBytes := hfl 3 _ rfl
    rw [i4] at t7
    simp only [List.drop_succ_cons, List.drop_zero, List.take_succ_cons, List.take_zero] at t0 t1 t4 t7
    obtain ⟨x0, e0, -, -⟩ := DataW.trod_int Tryd.underlying3 t0
    obtain ⟨x1, e1, -, -⟩ := DataW.trod_int Tryd.underlying3 t1
    obtain ⟨y0, y1, n4, -, -, u0, u1⟩ := trod_struct2 Tryd.underlying42 t4
    simp only [i1, List.drop_succ_cons, List.drop_zero, List.take_succ_cons, List.take_zero] at u0 u1
    obtain ⟨x2, e2, -, -⟩ := DataW.trod_int Tryd.underlying3 u0
    obtain ⟨x3, e3, -, -⟩ := DataW.trod_int Tryd.underlying3 u1
    simp only [List.cons.injEq, and_true] at e0 e1 e2 e3
    obtain ⟨A, k, c, rfl⟩ := slice_form t7
    obtain ⟨b, hb, _, _, hbl⟩ := bytesW_in (d := w7.1) (p := w7.2) ⟨m, t7⟩ hk
    exact ⟨⟨x0, x1, x2, x3, A, k, c, b⟩, by simp [Rv.cells, e0, e1, e2, e3], hb, hbl⟩
theorem rec_in {cs : Array Value} (h : DataW.Trod enc Tryd.prog W base spare held 44 (.agg cs) d p) (hw : ∀ k ∈ d.weights Tryd.prog 44, k ≤ reachBytes) :
    ∃ x : Rv, Value.agg cs = x.val ∧ RdB W x.A x.n x.b ∧ x.b.length ≤ 140737488351232 := by
  obtain ⟨fuel, hf⟩ := h
  obtain ⟨x, hx, hb, hl⟩ := rec_of hf hw
  have hc : (Value.agg cs).cells = cs := rfl
  rw [hc] at hx
  exact ⟨x, by rw [Rv.val, ← hx], hb, hl⟩
end
end Go.Proofs.YtdmkhmejpgjioaaDoor
