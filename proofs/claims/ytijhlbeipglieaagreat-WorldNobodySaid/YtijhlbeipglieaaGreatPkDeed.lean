/- Slices and structs that came in, as the walk takes them: elements, fields. -/
import Derived.Deep.Slices
import Derived.Test.YtijhlbeipglieaaGreatPkIn
import Derived.Test.YtijhlbeipglieaaGreatPkAlog
namespace Go.Proofs.YtijhlbeipglieaaGreat
open Go.ChangeShapes Go.WideShapes Go.RowKit Go.Deep Agio

section
variable {H : Type} {enc : TypeId × Value → H} {P : Program} {W : World} {base : Nat} {spare : Nat → Bool} {held : Bool}
theorem struct_inW {t : TypeId} {fs : Array Field} {fuel : Nat} {cs : List Value} {x : DataW H × List MemPlace} (he : P.underlying t = some (.struct fs))
    (h : DataW.trod enc P W base spare held fuel t cs = some x) (hw : ∀ k ∈ x.1.weights P t, k ≤ reachBytes) :
    cs.length = P.cellsOf t ∧ ∃ n, ∀ (j : Nat) (f : Field), fs[j]? = some f → ∃ y, DataW.trod enc P W base spare held n f.type ((cs.drop f.offset).take (P.cellsOf f.type)) = some y ∧ ∀ k ∈ y.1.weights P f.type, k ≤ reachBytes := by
  obtain ⟨ys, n, hn, hy, hlen, hyl, hfl⟩ := DataW.trod_struct he h
  subst hy
  simp only [DataW.weights, he] at hw
  refine ⟨hlen, n, fun j f hj => ?_⟩
  have hjl : j < ys.length := by have := (Array.getElem?_eq_some_iff.1 hj).1; omega
  refine ⟨ys[j], (hfl j f hj).trans (List.getElem?_eq_getElem hjl), fun k hk => hw k (DataW.weights_mem_each (j := j) (t := f.type) (d := ys[j].1) ?_ ?_ k hk)⟩
  · rw [List.getElem?_map, Array.getElem?_toList, hj]; rfl
  · rw [List.getElem?_map, List.getElem?_eq_getElem hjl]; rfl
end

end Go.Proofs.YtijhlbeipglieaaGreat
