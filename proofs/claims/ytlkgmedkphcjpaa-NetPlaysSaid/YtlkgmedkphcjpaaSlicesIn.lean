/- Slices that came in, as the walk takes them: of bytes, of numbers, of records. -/
import Derived.Test.YtlkgmedkphcjpaaRecIn
import Derived.Test.YtlkgmedkphcjpaaStructs
import Derived.Deep.Slices
import Derived.SizedLaws
namespace Go.Proofs.Ytlkgmedkphcjpaa
open Go.ChangeShapes Go.WideShapes Go.RowKit Go.Deep Agio

/-- A list out of what each place bears. -/
theorem list_of {α : Type} {P : Nat → α → Prop} : ∀ (n : Nat), (∀ i, i < n → ∃ x, P i x) → ∃ l : List α, l.length = n ∧ ∀ i (h : i < l.length), P i l[i]
  | 0, _ => ⟨[], rfl, by simp⟩
  | n + 1, h => by
    obtain ⟨l, hl, hp⟩ := list_of n (fun i hi => h i (by omega))
    obtain ⟨x, hx⟩ := h n (by omega)
    refine ⟨l ++ [x], by simp [hl], fun i hi => ?_⟩
    rcases Nat.lt_or_ge i l.length with h1 | h1
    · rw [List.getElem_append_left h1]; exact hp i h1
    · obtain rfl : i = l.length := by simp at hi; omega
      rw [List.getElem_append_right (by omega)]; simpa [hl] using hx
theorem rdS_of_each {α : Type} {f : α → List Value} {s : Nat} (hs : ∀ x, (f x).length = s) {W : World} {a : Addr} {len : Nat} {P : α → Prop}
    (each : ∀ i, i < len → ∃ x, (∀ j u, (f x)[j]? = some u → W.cell? (a.add (i * s + j)) = some u) ∧ P x) : ∃ l, RdS f s W (some a) len l ∧ ∀ x ∈ l, P x := by
  obtain ⟨l, hl, hp⟩ := list_of len each
  subst hl
  refine ⟨l, RdS.of hs a (fun i hi j u hu => (hp i hi).1 j u hu), fun x hx => ?_⟩
  obtain ⟨i, hi, rfl⟩ := List.getElem_of_mem hx
  exact (hp i hi).2

section
variable {H : Type} {enc : TypeId × Value → H} {W : World} {base : Nat} {spare : Nat → Bool} {held : Bool} {a0 : Option Addr} {len cap : Nat} {d : DataW H} {p : List MemPlace}
theorem sls_in (h : DataW.Trod enc Try.prog W base spare held 159 (.slice a0 len cap) d p) (hw : ∀ k ∈ d.weights Try.prog 159, k ≤ reachBytes) :
    ∃ l : List Sl, RdS (fun x : Sl => [x.val]) 1 W a0 len l ∧ ∀ x ∈ l, RdB W x.A x.k x.b ∧ x.b.length ≤ 140737488351232 := by
  rcases elems_in Try.underlying159 (C := 1) (by kernel_rfl) h hw with ⟨rfl, rfl, rfl⟩ | ⟨a, n, rfl, _, _, _, hi⟩
  · exact ⟨[], ⟨rfl, Rd.none_⟩, by simp⟩
  · refine rdS_of_each (f := fun x : Sl => [x.val]) (s := 1) (fun _ => rfl) fun i hil => ?_
    obtain ⟨cs, y, hl, hc, ht, hk⟩ := hi i hil
    match cs, hl with
    | [v], _ =>
      obtain ⟨A, k, c, rfl⟩ := slice_form ht
      obtain ⟨b, hb, _, _, hbl⟩ := bytesW_in (d := y.1) (p := y.2) ⟨n, ht⟩ hk
      refine ⟨⟨A, k, c, b⟩, fun j u hu => ?_, hb, hbl⟩
      obtain rfl : j = 0 := by
        rcases Nat.eq_zero_or_pos j with h | h
        · exact h
        · rw [List.getElem?_eq_none (by simp; omega)] at hu; cases hu
      rw [hc 0 (by omega), ← hu]; rfl
theorem recs_in (h : DataW.Trod enc Try.prog W base spare held 86 (.slice a0 len cap) d p) (hw : ∀ k ∈ d.weights Try.prog 86, k ≤ reachBytes) :
    ∃ l : List Rv, RdS Rv.cells 5 W a0 len l ∧ (∀ x ∈ l, RdB W x.A x.n x.b ∧ x.b.length ≤ 140737488351232) ∧ l.length * 56 ≤ 140737488351232 := by
  rcases elems_in Try.underlying86 (C := 5) (by kernel_rfl) h hw with ⟨rfl, rfl, rfl⟩ | ⟨a, n, rfl, _, _, hbb, hi⟩
  · exact ⟨[], ⟨rfl, Rd.none_⟩, by simp, by simp⟩
  · obtain ⟨l, hl, he⟩ : ∃ l : List Rv, RdS Rv.cells 5 W (some a) len l ∧ ∀ x ∈ l, RdB W x.A x.n x.b ∧ x.b.length ≤ 140737488351232 := by
      refine rdS_of_each Rv.cells_len fun i hil => ?_
      obtain ⟨cs, y, hl, hc, ht, hk⟩ := hi i hil
      obtain ⟨x, rfl, hb, hbl⟩ := rec_of ht hk
      refine ⟨x, fun j u hu => ?_, hb, hbl⟩
      have hj : j < 5 := by
        rcases Nat.lt_or_ge j 5 with h | h
        · exact h
        · rw [List.getElem?_eq_none (by rw [Rv.cells_len]; exact h)] at hu; cases hu
      rw [hc j hj, hu]
    refine ⟨l, hl, he, ?_⟩
    rw [show Try.prog.bytesOf 102 = 56 by kernel_rfl] at hbb
    rw [← hl.len]; simpa [reachBytes] using hbb
end
end Go.Proofs.Ytlkgmedkphcjpaa
