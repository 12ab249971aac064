/- A row of the call's own: an element taken out in place ('append(s[:i], s[i+1:]...)', 'clear'), a cell written. No program in sight. -/
import Derived.Test.YtdmmpcdilkcfjaaBase2
import Derived.ArgAppend
import Derived.Deep.RegionLaw
import Derived.Laws.IdiomCopy
namespace Agio
open Go Go.RowKit

theorem Blk.cellsSet (H : Nat) (t : TypeId) : ∀ (vs : List Value) (i : Nat) (w : World) (xs ys zs : List Value), Blk w H t (xs ++ ys ++ zs).toArray → xs.length = i → ys.length = vs.length → Blk (w.setCells H i vs) H t (xs ++ vs ++ zs).toArray
  | [], i, w, xs, ys, zs, h, _, hl => by
    obtain rfl : ys = [] := List.eq_nil_of_length_eq_zero (by simpa using hl)
    exact h
  | v :: vs, i, w, xs, [], zs, _, _, hl => by simp at hl
  | v :: vs, i, w, xs, y :: ys, zs, h, hi, hl => by
    have h1 := h.set_ i v
    have e : (xs ++ y :: ys ++ zs).toArray.setIfInBounds i v = ((xs ++ [v]) ++ ys ++ zs).toArray := by
      subst hi
      apply Array.ext'
      simp
    rw [e] at h1
    have := Blk.cellsSet H t vs (i + 1) _ (xs ++ [v]) ys zs h1 (by simp [hi]) (by simpa using hl)
    simpa [World.setCells] using this
theorem upd_cellsSet (H : Nat) {a b : List Nat} {w0 : World} : ∀ (vs : List Value) (i : Nat) (w : World), Upd a b w0 w → (H ∈ a ∨ w0.heap.size ≤ H) → Upd a b w0 (w.setCells H i vs)
  | [], _, _, h, _ => h
  | v :: vs, i, w, h, hH => upd_cellsSet H vs (i + 1) _ (h.setCell (p := ⟨H, i, none⟩) hH v) hH

/-- A row of the call's own with something in it: its block. -/
theorem Own.block {e : TypeId} {size : Nat} {w : World} {A : Option Addr} {n c : Nat} {xs : List Value} (h : Own e size w A n c xs) (hn : 0 < n) :
    ∃ g cur, A = some ⟨g, 0, none⟩ ∧ Blk w g e (xs ++ cur).toArray ∧ (xs ++ cur).length = c * size ∧ n ≤ c ∧ c ≤ maxLen := by
  rcases h.2 with ⟨_, h0⟩ | ⟨g, cap, cur, hv, hb, hg, hnc, hcm, hcs, htk⟩
  · omega
  · injection hv with hA _ hc
    subst hA hc
    have hx := List.take_append_drop (n * size) cur.toList
    rw [htk] at hx
    refine ⟨g, cur.toList.drop (n * size), rfl, ?_, ?_, hnc, hcm⟩
    · rw [hx]; exact hg
    · rw [hx]; simpa using hcs
theorem Own.of_block {e : TypeId} {size : Nat} {w : World} {g n c : Nat} {xs cur : List Value} (hB : Blk w g e (xs ++ cur).toArray) (hx : xs.length = n * size) (hl : (xs ++ cur).length = c * size) (hn : n ≤ c) (hc : c ≤ maxLen) : Own e size w (some ⟨g, 0, none⟩) n c xs :=
  ⟨hx, .inr ⟨g, c, _, rfl, Nat.zero_le _, hB, hn, hc, by simpa using hl, by simp [← hx]⟩⟩
theorem add0 (g i : Nat) : (⟨g, 0, none⟩ : Addr).add i = ⟨g, i, none⟩ := by unfold Addr.add; split <;> simp_all

/-- 'append(s[:i], s[i+1:]...)' on a row of the call's own, then 'clear' of the last place. -/
theorem Own.del {P : Program} {e t : TypeId} {size bytes : Nat} {z : Value} {w : World} {A : Option Addr} {n c : Nat} {xs : List Value}
    (ht : P.underlying t = some (.slice e)) (hi : (P.info? e).map (fun i => (i.zero, i.size, i.bytes)) = some (some z, size, bytes)) (hs : 0 < size)
    (h : Own e size w A n c xs) {i : Nat} (hin : i < n) (h1 : ∀ u ∈ xs, u.oneCell' = true) (ty : TypeId) (A2 : Option Addr) (hA2 : A2 = if c = i + 1 then A else A.map (fun x => x.add ((i + 1) * size))) (d : Nat) :
    ∃ w', (Builtin.append_ #[t, t] ty #[.slice A i c, .slice A2 (n - (i + 1)) d]).run P w = .ok (.slice A (n - 1) c) w' ∧ Upd (ablk A) (ablk A) w w' ∧
      (∀ (zs : List Value), zs.length = size → (∀ u ∈ zs, u.oneCell' = true) → ∀ ad, A = some ad → (storeCells (ad.add ((n - 1) * size)) zs 0).run P w' = .ok () (w'.setCells ad.block ((n - 1) * size) zs) ∧
        Own e size (w'.setCells ad.block ((n - 1) * size) zs) A (n - 1) c (xs.take (i * size) ++ xs.drop ((i + 1) * size)) ∧ Upd (ablk A) (ablk A) w (w'.setCells ad.block ((n - 1) * size) zs)) := by
  obtain ⟨ii, hii, hz, hsize, hby⟩ := info_parts hi
  obtain ⟨g, cur, rfl, hB, hlen, hnc, hcm⟩ := h.block (by omega)
  have hxl := h.len
  have e1 : (i + 1) * size = i * size + size := by rw [Nat.add_mul]; simp
  have e2 : n * size = i * size + (size + (n - (i + 1)) * size) := by
    rw [← Nat.add_assoc, ← e1, ← Nat.add_mul]; congr 1; omega
  have e3 : (n - 1) * size = i * size + (n - (i + 1)) * size := by rw [← Nat.add_mul]; congr 1; omega
  have e4 : n * size = (n - 1) * size + size := by omega
  have hnl : (xs.drop ((i + 1) * size)).length = (n - (i + 1)) * size := by rw [List.length_drop, hxl]; omega
  have htl : (xs.take (i * size)).length = i * size := by rw [List.length_take, hxl]; omega
  have hm : ∀ u ∈ xs.drop ((i + 1) * size), u.oneCell' = true := fun u hu => h1 u (List.mem_of_mem_drop hu)
  have hcell : ∀ k, k < n * size → (w.cell? ⟨g, k, none⟩).isSome = true := fun k hk => by rw [hB.cell]; simp; omega
  have hfr : ∀ k, w.frozen? ⟨g, k, none⟩ = false := fun k => hB.frozen k
  have hd : ∀ j u, (xs.drop ((i + 1) * size))[j]? = some u → w.cell? ⟨g, (i + 1) * size + j, none⟩ = some u := fun j u hu => by
    rw [hB.cell, List.getElem?_toArray, List.getElem?_append_left (by
      have := (List.getElem?_eq_some_iff.1 hu).1
      rw [hnl] at this; rw [hxl]; omega)]
    rwa [List.getElem?_drop] at hu
  -- the block behind the append
  have hsp : xs ++ cur = xs.take (i * size) ++ (xs.drop (i * size)).take ((n - (i + 1)) * size) ++ ((xs.drop (i * size)).drop ((n - (i + 1)) * size) ++ cur) := by
    rw [← List.append_assoc, List.append_assoc (xs.take (i * size)), List.take_append_drop, List.take_append_drop]
  have hB2 := hB
  rw [hsp] at hB2
  have hB3 := Blk.cellsSet g e (xs.drop ((i + 1) * size)) (i * size) w _ _ _ hB2 htl (by rw [List.length_take, List.length_drop, hxl, hnl]; omega)
  have U3 : Upd (ablk (some ⟨g, 0, none⟩)) (ablk (some ⟨g, 0, none⟩)) w (w.setCells g (i * size) (xs.drop ((i + 1) * size))) := upd_cellsSet g _ _ _ (Upd.refl _ _) (.inl (by simp [ablk]))
  refine ⟨w.setCells g (i * size) (xs.drop ((i + 1) * size)), ?_, U3, ?_⟩
  · have hrun : ∀ a : Addr, (∀ j u, (xs.drop ((i + 1) * size))[j]? = some u → w.cell? (a.add j) = some u) →
        (Builtin.append_ #[t, t] ty #[.slice (some ⟨g, 0, none⟩) i c, .slice (some a) (n - (i + 1)) d]).run P w = .ok (.slice (some ⟨g, 0, none⟩) (n - 1) c) (w.setCells g (i * size) (xs.drop ((i + 1) * size))) := fun a ha => by
      have := run_append_room_cells (P := P) w t ty e ii ht hii g 0 i c a (n - (i + 1)) d _ (by rw [hsize]; exact hnl) ha hm (by omega)
        (fun j hj => by rw [hsize, Nat.zero_add]; exact hcell _ (by rw [hnl] at hj; omega)) (fun j _ => hfr _)
      rw [hsize, Nat.zero_add, show i + (n - (i + 1)) = n - 1 by omega] at this
      exact this
    by_cases hci : c = i + 1
    · rw [if_pos hci] at hA2
      subst hA2
      have hdn : xs.drop ((i + 1) * size) = [] := List.drop_eq_nil_of_le (by rw [hxl, ← hci]; exact Nat.mul_le_mul_right _ hnc)
      exact hrun _ (fun j u hu => by rw [hdn] at hu; simp at hu)
    · rw [if_neg hci] at hA2
      subst hA2
      refine hrun _ (fun j u hu => ?_)
      rw [add_of_add, add0]
      exact hd j u hu
  · intro zs hzl hz1 ad had
    injection had with had
    subst had
    have hcs : (xs.take (i * size) ++ xs.drop ((i + 1) * size)).length = (n - 1) * size := by rw [List.length_append, htl, hnl]; omega
    have hrl : ((xs.drop (i * size)).drop ((n - (i + 1)) * size)).length = size := by rw [List.length_drop, List.length_drop, hxl]; omega
    have hc3 : ∀ k, k < n * size → ((w.setCells g (i * size) (xs.drop ((i + 1) * size))).cell? ⟨g, k, none⟩).isSome = true := fun k hk => by
      rw [hB3.cell]; simp only [List.getElem?_toArray, ← List.append_assoc]
      rw [List.getElem?_eq_getElem (by simp only [List.length_append, htl, hnl, hrl]; omega)]; rfl
    rw [← List.append_assoc] at hB3
    have hB4 := Blk.cellsSet g e zs ((n - 1) * size) _ (xs.take (i * size) ++ xs.drop ((i + 1) * size)) ((xs.drop (i * size)).drop ((n - (i + 1)) * size)) cur (by simpa [List.append_assoc] using hB3) hcs (by rw [hrl, hzl])
    refine ⟨?_, ?_, upd_cellsSet g _ _ _ U3 (.inl (by simp [ablk]))⟩
    · have := run_storeCells_cells (P := P) g ((n - 1) * size) zs 0 (w.setCells g (i * size) (xs.drop ((i + 1) * size))) (fun j hj => hc3 _ (by omega)) (fun j _ => by rw [World.frozen?_setCells]; exact hfr _) hz1
      rw [add0]
      simpa using this
    · rw [List.append_assoc] at hB4
      refine Own.of_block hB4 hcs ?_ (by omega) hcm
      rw [List.length_append, hcs, List.length_append, hzl, ← hlen, List.length_append, hxl]
      omega
/-- A cell of a row of the call's own is written. -/
theorem Own.write {e : TypeId} {size : Nat} {w : World} {A : Option Addr} {n c : Nat} {xs : List Value} (h : Own e size w A n c xs) {k : Nat} (hk : k < n * size) (v : Value) :
    ∃ g, A = some ⟨g, 0, none⟩ ∧ w.frozen? ⟨g, k, none⟩ = false ∧ Own e size (w.setCell ⟨g, k, none⟩ v) A n c (xs.set k v) ∧ Upd (ablk A) (ablk A) w (w.setCell ⟨g, k, none⟩ v) := by
  rcases h.2 with ⟨_, hn⟩ | ⟨g, cap, cur, hv, hb, hg, hnc, hcm, hcs, htk⟩
  · subst hn; simp at hk
  · injection hv with hA _ hc
    subst hA hc
    have hB : Blk w g e cur := hg
    have h' := hB.set_ k v
    refine ⟨g, rfl, hB.frozen k, ⟨by rw [List.length_set]; exact h.len, .inr ⟨g, c, _, rfl, hb, h', hnc, hcm, by simpa using hcs, ?_⟩⟩, (Upd.refl _ _).setCell (.inl (by simp [ablk])) _⟩
    rw [Array.toList_setIfInBounds, List.take_set, htk]
/-- One step of a region that draws its order: an append whose run is known. -/
theorem step_run {P : Program} {ops : Array Oper} {o : Oper} {a : Act} {w : World} {K : Act → World → Prop} {Q : Exit → Act → World → Prop} {E : Prop}
    (hg : o.guard = none) (s x : Operand) (t : TypeId) (hop : o.op = Op.call { callee := Callee.builtin Builtin.append, args := #[s, x], argTypes := #[t, t] })
    (vs vx v : Value) (w' : World) (hs : a.eval s = vs) (hx : a.eval x = vx) (hrun : (Builtin.append_ #[t, t] o.type #[vs, vx]).run P w = .ok v w') (hK : K (a.put o.dst v) w') :
    if Region.wanted o (yielded ops a.tmps) = true then Oper.wp P o a w K Q else E := by
  have hw : Region.wanted o (yielded ops a.tmps) = true := by simp [Region.wanted, hg]
  rw [if_pos hw]
  unfold Oper.wp
  simp [execOp, hop, resolve, invoke, builtin, hs, hx, hrun, Result.andThen]
  exact hK
end Agio
