/- Plain words of agiolaw20.SideKeeps. -/
import Derived.Test.YtdmmpcdilkcfjaaPlainSide
namespace Go.Proofs.Ytdmmpcdilkcfjaa
open Agio

theorem insO_parts (s : Int) (o : Ord) : ∀ (L : List Ord), Rising s L → ∃ X Y, insO s o L = X ++ o :: Y ∧ L = X ++ Y ∧ ∀ x ∈ Y, x.price ≠ o.price
  | [], _ => ⟨[], [], rfl, rfl, by simp⟩
  | x :: r, h => by
    have h' := List.pairwise_cons.1 h
    by_cases hb : better s o.price x.price = true
    · refine ⟨[], x :: r, by simp [insO, hb], rfl, fun y hy e => ?_⟩
      rcases List.mem_cons.1 hy with rfl | hy
      · rw [e, better_irrefl] at hb; cases hb
      · have := h'.1 y hy
        rw [e, hb] at this
        cases this
    · obtain ⟨X, Y, e1, e2, e3⟩ := insO_parts s o r h'.2
      exact ⟨x :: X, Y, by simp [insO, hb, e1], by simp [e2], e3⟩
theorem filter_pos {α : Type} (p : α → Bool) (l : List α) {i : Nat} (hi : i < l.length) (h : p l[i] = true) : (l.filter p)[((l.take i).filter p).length]? = some l[i] := by
  conv => lhs; rw [← List.take_append_drop i l, List.filter_append]
  rw [List.take_append_drop, List.drop_eq_getElem_cons hi, List.filter_cons, if_pos h, List.getElem?_append_right (Nat.le_refl _)]
  simp
theorem filter_step {α : Type} (p : α → Bool) (l : List α) {i : Nat} (hi : i < l.length) : ((l.take (i + 1)).filter p).length = ((l.take i).filter p).length + if p l[i] = true then 1 else 0 := by
  rw [List.take_succ_eq_append_getElem hi, List.filter_append, List.length_append, List.filter_cons]
  by_cases h : p l[i] = true <;> simp [h]
theorem dropO_len1 {id : Int} : ∀ {L : List Ord}, (L.map Ord.id).Nodup → (∃ o ∈ L, o.id = id) → (dropO id L).length + 1 = L.length
  | [], _, h => by obtain ⟨o, ho, _⟩ := h; cases ho
  | x :: r, hn, h => by
    have hn' := List.nodup_cons.1 (by simpa using hn : (x.id :: r.map Ord.id).Nodup)
    by_cases hx : x.id = id
    · have hr : dropO id r = r := dropO_none fun y hy e => hn'.1 (by rw [hx, ← e]; exact List.mem_map_of_mem hy)
      have : dropO id (x :: r) = dropO id r := by simp [dropO, hx]
      rw [this, hr]; rfl
    · have : dropO id (x :: r) = x :: dropO id r := by simp [dropO, hx]
      rw [this, List.length_cons, List.length_cons, dropO_len1 hn'.2 (by
        obtain ⟨o, ho, e⟩ := h
        rcases List.mem_cons.1 ho with rfl | ho
        · exact absurd e hx
        · exact ⟨o, ho, e⟩)]
theorem take_full {α : Type} (p : α → Bool) (l : List α) : ((l.take l.length).filter p).length = (l.filter p).length := by rw [List.take_length]
end Go.Proofs.Ytdmmpcdilkcfjaa
