/- Rows of orders' numbers and what is left of each, as lists. Plain lists, no program in sight. -/
import Derived.Test.YtdmmpcdilkcfjaaPlainSide
namespace Agio

abbrev Its := List (Int × Int)
/-- The first place from i on at which a number stands; -1 without one. -/
def idxQ (id : Int) : Its → Nat → Int
  | [], _ => -1
  | x :: r, i => if x.1 = id then (i : Int) else idxQ id r (i + 1)
def cutQ (id q : Int) (l : Its) : Its := l.map fun x => if x.1 = id then (x.1, q) else x
def dropQ (id : Int) (l : Its) : Its := l.filter fun x => !decide (x.1 = id)
def sumI (l : Its) : Int := l.foldl (fun n x => n + x.2) 0
def lookQ (id : Int) (l : Its) : Option Int := (l.find? fun x => decide (x.1 = id)).map Prod.snd

theorem idxQ_none {id : Int} {l : Its} (h : ∀ x ∈ l, x.1 ≠ id) (i : Nat) : idxQ id l i = -1 := by
  induction l generalizing i with
  | nil => rfl
  | cons x r ih => unfold idxQ; rw [if_neg (h x (by simp)), ih fun y hy => h y (List.mem_cons_of_mem _ hy)]
theorem idxQ_cases (id : Int) (l : Its) : ((∀ x ∈ l, x.1 ≠ id) ∧ idxQ id l 0 = -1) ∨ ∃ k : Nat, ∃ h : k < l.length, (∀ j, ∀ hj : j < k, (l[j]).1 ≠ id) ∧ l[k].1 = id ∧ idxQ id l 0 = (k : Int) := by
  have key : ∀ (l : Its) (i : Nat), ((∀ x ∈ l, x.1 ≠ id) ∧ idxQ id l i = -1) ∨ ∃ k : Nat, ∃ h : k < l.length, (∀ j, ∀ hj : j < k, (l[j]).1 ≠ id) ∧ l[k].1 = id ∧ idxQ id l i = ((i + k : Nat) : Int) := by
    intro l
    induction l with
    | nil => intro i; exact .inl ⟨by simp, rfl⟩
    | cons x r ih =>
      intro i
      by_cases e : x.1 = id
      · refine .inr ⟨0, by simp, by simp, by simpa using e, ?_⟩
        unfold idxQ; rw [if_pos e]; rfl
      · rcases ih (i + 1) with ⟨h1, h2⟩ | ⟨k, hk, h1, h2, h3⟩
        · refine .inl ⟨fun y hy => ?_, ?_⟩
          · rcases List.mem_cons.1 hy with rfl | hy
            · exact e
            · exact h1 y hy
          · unfold idxQ; rw [if_neg e, h2]
        · refine .inr ⟨k + 1, by simp; omega, fun j hj => ?_, by simpa using h2, ?_⟩
          · cases j with
            | zero => simpa using e
            | succ j => simpa using h1 j (by omega)
          · unfold idxQ; rw [if_neg e, h3]; congr 1; omega
  have := key l 0
  simpa using this
theorem set_cutQ {id q : Int} {l : Its} {k : Nat} (hk : k < l.length) (hn : (l.map Prod.fst).Nodup) (h : l[k].1 = id) : l.set k (id, q) = cutQ id q l := by
  unfold cutQ
  apply List.ext_getElem
  · simp
  intro i h1 h2
  rw [List.getElem_set, List.getElem_map]
  have hi : i < l.length := by simpa using h1
  by_cases e : k = i
  · subst e; simp [h]
  · rw [if_neg e]
    have : l[i].1 ≠ id := by
      intro e2
      have := List.getElem_inj (h₀ := by simpa using hk) (h₁ := by simpa using hi) hn |>.1 (by rw [List.getElem_map, List.getElem_map, h, e2])
      exact e this
    rw [if_neg this]
theorem erase_dropQ {id : Int} {l : Its} {k : Nat} (hk : k < l.length) (hn : (l.map Prod.fst).Nodup) (h : l[k].1 = id) : l.eraseIdx k = dropQ id l := by
  induction l generalizing k with
  | nil => simp at hk
  | cons x r ih =>
    rw [List.map_cons, List.nodup_cons] at hn
    cases k with
    | zero =>
      have hx : x.1 = id := by simpa using h
      unfold dropQ
      rw [List.eraseIdx_cons_zero, List.filter_cons]
      simp only [hx, decide_true, Bool.not_true, Bool.false_eq_true, if_false]
      rw [List.filter_eq_self.2]
      intro y hy
      have : y.1 ≠ id := fun e => hn.1 (List.mem_map.2 ⟨y, hy, by rw [e, hx]⟩)
      simp [this]
    | succ k =>
      have hr : (r[k]'(by simpa using hk)).1 = id := by simpa using h
      have hx : x.1 ≠ id := fun e => hn.1 (List.mem_map.2 ⟨r[k]'(by simpa using hk), List.getElem_mem _, by rw [e, hr]⟩)
      rw [List.eraseIdx_cons_succ, ih (by simpa using hk) hn.2 hr]
      unfold dropQ
      rw [List.filter_cons]
      simp [hx]
theorem sumI_fold (l : Its) (n : Int) : l.foldl (fun n x => n + x.2) n = n + sumI l := by
  induction l generalizing n with
  | nil => simp [sumI]
  | cons x r ih =>
    unfold sumI
    rw [List.foldl_cons, List.foldl_cons, ih, ih]
    omega
theorem sumI_snoc (l : Its) (x : Int × Int) : sumI (l ++ [x]) = sumI l + x.2 := by unfold sumI; rw [List.foldl_append]; rfl
theorem sumI_bd (l : Its) (h : ∀ x ∈ l, 1 ≤ x.2 ∧ x.2 ≤ 1073741824) : 0 ≤ sumI l ∧ sumI l ≤ 1073741824 * l.length := by
  induction l with
  | nil => simp [sumI]
  | cons x r ih =>
    have h1 := ih fun y hy => h y (List.mem_cons_of_mem _ hy)
    have h2 := h x (by simp)
    have h3 := sumI_fold r (0 + x.2)
    unfold sumI at h1 ⊢
    rw [List.foldl_cons, h3]
    simp only [List.length_cons]
    unfold sumI
    omega

/-- A price's orders as a row. -/
def itsO (l : List Ord) : Its := l.map fun o => (o.id, o.qty)
theorem itsO_ids (l : List Ord) : (itsO l).map Prod.fst = l.map Ord.id := by simp [itsO]
theorem itsO_cut (id q : Int) (l : List Ord) : itsO (cutO id q l) = cutQ id q (itsO l) := by
  unfold itsO cutO cutQ
  rw [List.map_map, List.map_map]
  refine List.map_congr_left fun x _ => ?_
  simp only [Function.comp]
  split <;> simp_all
theorem itsO_drop (id : Int) (l : List Ord) : itsO (dropO id l) = dropQ id (itsO l) := by
  unfold itsO dropO dropQ
  rw [List.filter_map]
  rfl
theorem itsO_sum (l : List Ord) : sumI (itsO l) = sumQ l := by
  unfold sumI sumQ itsO
  rw [List.foldl_map]
end Agio
