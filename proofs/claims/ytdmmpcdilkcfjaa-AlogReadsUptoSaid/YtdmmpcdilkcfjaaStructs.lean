/- Slices of structs, as they are read. -/
import Derived.Test.YtdmmpcdilkcfjaaFlat
namespace Go.Proofs.Ytdmmpcdilkcfjaa
open Go.RowKit Agio

/-- A slice whose elements have s cells each. -/
structure RdS {α : Type} (f : α → List Value) (s : Nat) (w : World) (A : Option Addr) (n : Nat) (l : List α) : Prop where
  len : n = l.length
  rd : Rd w s A n (l.flatMap f)
section
variable {α : Type} {f : α → List Value} {s : Nat} {w w' : World} {A : Option Addr} {n : Nat} {l : List α}
theorem RdS.upd {a b : List Nat} (h : RdS f s w A n l) (hu : Upd a b w w') (hd : ∀ k ∈ ablk A, k ∉ a) : RdS f s w' A n l := ⟨h.len, h.rd.upd hu hd⟩
theorem RdS.upd0 {b : List Nat} (h : RdS f s w A n l) (hu : Upd [] b w w') : RdS f s w' A n l := h.upd hu (by simp)
theorem RdS.drewN (h : RdS f s w A n l) (k : Nat) : RdS f s (w.drewN k) A n l := ⟨h.len, h.rd.drewN k⟩
theorem RdS.some_ (h : RdS f s w A n l) (hl : 0 < l.length) : ∃ ad, A = some ad := by
  obtain ⟨ad, e, _⟩ := h.rd.2 (by rw [h.len]; exact hl)
  exact ⟨ad, e⟩
theorem RdS.at_ (hs : ∀ x, (f x).length = s) (h : RdS f s w A n l) {i : Nat} (hi : i < l.length) : ∃ ad, A = some ad ∧ (∀ u, (f l[i])[0]? = some u → w.cell? (ad.add (i * s)) = some u) ∧
    ∀ j u, 0 < j → (f l[i])[j]? = some u → w.cell? ⟨(ad.add (i * s)).block, (ad.add (i * s)).off + j, none⟩ = some u := by
  obtain ⟨ad, e, hc⟩ := h.rd.2 (by rw [h.len]; omega)
  refine ⟨ad, e, fun u hu => ?_, fun j u hj hu => ?_⟩
  · have hl : 0 < s := by
      rcases Nat.eq_zero_or_pos s with h0 | h0
      · have := hs l[i]; rw [h0] at this; rw [List.eq_nil_of_length_eq_zero this] at hu; simp at hu
      · exact h0
    exact hc _ _ (by rw [← hu]; simpa using flat_get hs l i 0 hi hl)
  · have hl : j < s := by
      rcases Nat.lt_or_ge j s with h0 | h0
      · exact h0
      · rw [List.getElem?_eq_none (by rw [hs]; exact h0)] at hu; cases hu
    rw [fld _ _ _ hj]
    exact hc _ _ (by rw [← hu]; exact flat_get hs l i j hi hl)
theorem RdS.of (hs : ∀ x, (f x).length = s) (ad : Addr) (hc : ∀ i (hi : i < l.length) j u, (f l[i])[j]? = some u → w.cell? (ad.add (i * s + j)) = some u) : RdS f s w (some ad) l.length l := by
  refine ⟨rfl, by rw [flat_len hs], fun _ => ⟨ad, rfl, fun j u hu => ?_⟩⟩
  have hj : j < l.length * s := by
    rcases Nat.lt_or_ge j (l.length * s) with h | h
    · exact h
    · rw [List.getElem?_eq_none (by rw [flat_len hs]; exact h)] at hu; cases hu
  have h0 : 0 < s := by
    rcases Nat.eq_zero_or_pos s with h0 | h0
    · rw [h0] at hj; omega
    · exact h0
  have hi : j / s < l.length := Nat.div_lt_of_lt_mul (by rw [Nat.mul_comm]; exact hj)
  have hm := Nat.div_add_mod j s
  have hm' : j = j / s * s + j % s := by rw [Nat.mul_comm]; omega
  rw [hm'] at hu ⊢
  rw [flat_get hs l _ _ hi (Nat.mod_lt _ h0)] at hu
  exact hc _ hi _ _ hu
end
end Go.Proofs.Ytdmmpcdilkcfjaa
