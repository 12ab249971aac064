/- The document's side as a list: where an order is, what is put, cut, dropped; its prices. Plain lists, no program in sight. -/
import Derived.Test.YtdmmpcdilkcfjaaPlainSide
namespace Go.Proofs.Ytdmmpcdilkcfjaa
open Agio

/-- An order's place; the list's length: it isn't there. -/
def idxO (id : Int) : List Ord → Nat
  | [] => 0
  | x :: r => if x.id = id then 0 else idxO id r + 1
theorem idxO_le (id : Int) (L : List Ord) : idxO id L ≤ L.length := by
  induction L with
  | nil => exact Nat.le_refl _
  | cons x r ih => unfold idxO; split <;> simp; omega
theorem idxO_at {id : Int} {L : List Ord} {i : Nat} (hi : i < L.length) (h : L[i].id = id) (hb : ∀ j (hj : j < L.length), j < i → L[j].id ≠ id) : idxO id L = i := by
  induction L generalizing i with
  | nil => simp at hi
  | cons x r ih =>
    unfold idxO
    cases i with
    | zero => rw [if_pos (by simpa using h)]
    | succ i =>
      rw [if_neg (fun e => hb 0 (by simp) (by omega) e), ih (i := i) (by simpa using hi) (by simpa using h) fun j hj hji e => hb (j + 1) (by simpa using hj) (by omega) e]
theorem idxO_none {id : Int} {L : List Ord} (hb : ∀ j (hj : j < L.length), L[j].id ≠ id) : idxO id L = L.length := by
  induction L with
  | nil => rfl
  | cons x r ih =>
    unfold idxO
    rw [if_neg (fun e => hb 0 (by simp) e), ih fun j hj e => hb (j + 1) (by simpa using hj) e]
    rfl
theorem findO_idx (id : Int) (L : List Ord) : findO id L = L[idxO id L]? := by
  induction L with
  | nil => rfl
  | cons x r ih =>
    unfold findO at ih ⊢
    rw [List.find?_cons]
    unfold idxO
    by_cases h : x.id = id
    · simp [h]
    · simp [h, ih]
theorem findO_isSome (id : Int) (L : List Ord) : (findO id L).isSome = decide (idxO id L < L.length) := by
  rw [findO_idx]
  by_cases h : idxO id L < L.length
  · simp [h]
  · simp [h]
theorem dropO_idx {id : Int} {L : List Ord} (hn : (L.map Ord.id).Nodup) (h : idxO id L < L.length) : dropO id L = L.take (idxO id L) ++ L.drop (idxO id L + 1) := by
  induction L with
  | nil => simp at h
  | cons x r ih =>
    have hn' := List.nodup_cons.1 (by simpa using hn : (x.id :: r.map Ord.id).Nodup)
    by_cases hx : x.id = id
    · have hr : dropO id r = r := dropO_none fun y hy e => hn'.1 (by rw [hx, ← e]; exact List.mem_map_of_mem hy)
      have e : dropO id (x :: r) = dropO id r := by simp [dropO, hx]
      have e2 : idxO id (x :: r) = 0 := by simp [idxO, hx]
      rw [e, hr, e2]; rfl
    · have e : dropO id (x :: r) = x :: dropO id r := by simp [dropO, hx]
      have e2 : idxO id (x :: r) = idxO id r + 1 := by simp [idxO, hx]
      rw [e2] at h
      rw [e, e2, ih hn'.2 (by simpa using h)]
      simp
theorem cutO_idx {id q : Int} {L : List Ord} (hn : (L.map Ord.id).Nodup) (h : idxO id L < L.length) : cutO id q L = L.set (idxO id L) { L[idxO id L] with qty := q } := by
  induction L with
  | nil => simp at h
  | cons x r ih =>
    have hn' := List.nodup_cons.1 (by simpa using hn : (x.id :: r.map Ord.id).Nodup)
    by_cases hx : x.id = id
    · have hr : cutO id q r = r := cutO_none fun y hy e => hn'.1 (by rw [hx, ← e]; exact List.mem_map_of_mem hy)
      have e : cutO id q (x :: r) = { x with qty := q } :: cutO id q r := by simp [cutO, hx]
      have e2 : idxO id (x :: r) = 0 := by simp [idxO, hx]
      rw [e, hr]; simp only [e2]; rfl
    · have e : cutO id q (x :: r) = x :: cutO id q r := by simp [cutO, hx]
      have e2 : idxO id (x :: r) = idxO id r + 1 := by simp [idxO, hx]
      simp only [e2] at h ⊢
      rw [e, ih hn'.2 (by simpa using h)]
      simp
theorem insO_split {s : Int} {o : Ord} {X Y : List Ord} (hX : ∀ x ∈ X, better s o.price x.price = false) (hY : ∀ y ∈ Y, better s o.price y.price = true) : insO s o (X ++ Y) = X ++ o :: Y := by
  induction X with
  | nil =>
    cases Y with
    | nil => rfl
    | cons y r => simp [insO, hY y (by simp)]
  | cons x r ih =>
    have := ih fun x hx => hX x (List.mem_cons_of_mem _ hx)
    simp [insO, hX x (by simp), this]
theorem insO_at {s : Int} {o : Ord} {L : List Ord} (hL : Rising s L) {a : Nat} (ha : a ≤ L.length) (h1 : ∀ j (hj : j < L.length), a ≤ j → better s o.price L[j].price = true)
    (h0 : ∀ j (hj : j < L.length), j + 1 = a → better s o.price L[j].price = false) : insO s o L = L.take a ++ o :: L.drop a := by
  conv => lhs; rw [← List.take_append_drop a L]
  refine insO_split (fun x hx => ?_) (fun y hy => ?_)
  · obtain ⟨j, hj, rfl⟩ := List.mem_iff_getElem.1 hx
    rw [List.length_take] at hj
    rw [List.getElem_take]
    have hl := h0 (a - 1) (by omega) (by omega)
    by_cases e : j = a - 1
    · subst e; exact hl
    · have := List.pairwise_iff_getElem.1 hL j (a - 1) (by omega) (by omega) (by omega)
      cases hb : better s o.price L[j].price
      · rfl
      · cases hc : better s L[j].price L[a - 1].price
        · have := better_total hc this
          rw [this, hl] at hb; cases hb
        · have := better_trans hb hc
          rw [hl] at this; cases this
  · obtain ⟨j, hj, rfl⟩ := List.mem_iff_getElem.1 hy
    rw [List.length_drop] at hj
    rw [List.getElem_drop]
    exact h1 (a + j) (by omega) (by omega)

/-- What Put answers. -/
def putE (s : Int) (o : Ord) (L : List Ord) : Int := if mayO s o = true then if (findO o.id L).isSome = true then 7 else if 256 ≤ L.length then 5 else 0 else 1
def putL (s : Int) (o : Ord) (L : List Ord) : List Ord := if putE s o L = 0 then insO s o L else L
theorem putE_zero {s : Int} {o : Ord} {L : List Ord} : putE s o L = 0 ↔ mayO s o = true ∧ findO o.id L = none ∧ L.length < 256 := by
  unfold putE
  constructor
  · intro h
    split at h
    · rename_i hm
      split at h
      · omega
      · rename_i hf
        split at h
        · omega
        · exact ⟨hm, by simpa using hf, by omega⟩
    · omega
  · rintro ⟨h1, h2, h3⟩
    rw [if_pos h1, h2, if_neg (by simp), if_neg (by omega)]
theorem Sd.put {s : Int} {L : List Ord} (h : Sd s L) (o : Ord) : Sd s (putL s o L) := by
  unfold putL
  split
  · rename_i he
    obtain ⟨h1, h2, h3⟩ := putE_zero.1 he
    exact h.ins h1 h2 h3
  · exact h
/-- What Cut answers. -/
def cutE (id q : Int) (L : List Ord) : Bool := match findO id L with
  | some o => decide (1 ≤ q) && decide (q < o.qty)
  | none => false
def cutL (id q : Int) (L : List Ord) : List Ord := if cutE id q L = true then cutO id q L else L
theorem Sd.cutL_ {s : Int} {L : List Ord} (h : Sd s L) (id q : Int) : Sd s (cutL id q L) := by
  unfold cutL
  split
  · rename_i he
    unfold cutE at he
    split at he
    · rename_i o ho
      simp only [Bool.and_eq_true, decide_eq_true_eq] at he
      have hm := h.may o (findO_some ho).1
      simp only [mayO, decide_eq_true_eq] at hm
      exact h.cut he.1 (by omega)
    · cases he
  · exact h
theorem dropO_self {id : Int} {L : List Ord} (h : findO id L = none) : dropO id L = L := dropO_none (findO_none h)

theorem pricesO_cons2 (x y : Ord) (r : List Ord) : pricesO (x :: y :: r) = if x.price = y.price then pricesO (y :: r) else x.price :: pricesO (y :: r) := rfl
theorem pricesO_snoc (X : List Ord) (x y : Ord) : pricesO (X ++ [x] ++ [y]) = if x.price = y.price then pricesO (X ++ [x]) else pricesO (X ++ [x]) ++ [y.price] := by
  induction X with
  | nil =>
    by_cases h : x.price = y.price
    · simp [pricesO, h]
    · simp [pricesO, h]
  | cons z r ih =>
    cases r with
    | nil =>
      simp only [List.nil_append, List.cons_append] at ih ⊢
      rw [pricesO_cons2, ih, pricesO_cons2]
      split <;> split <;> rfl
    | cons z2 r2 =>
      simp only [List.cons_append] at ih ⊢
      rw [pricesO_cons2, ih, pricesO_cons2]
      split <;> split <;> rfl
theorem pricesO_take0 {L : List Ord} (h : 0 < L.length) : pricesO (L.take 1) = [L[0].price] := by
  cases L with
  | nil => simp at h
  | cons x r => rfl
theorem pricesO_take {L : List Ord} {i : Nat} (hi : i + 1 < L.length) : pricesO (L.take (i + 2)) = if L[i].price = L[i + 1].price then pricesO (L.take (i + 1)) else pricesO (L.take (i + 1)) ++ [L[i + 1].price] := by
  rw [List.take_succ_eq_append_getElem hi, List.take_succ_eq_append_getElem (by omega)]
  exact pricesO_snoc _ _ _
theorem pricesO_len (L : List Ord) : (pricesO L).length ≤ L.length := by
  induction L with
  | nil => simp [pricesO]
  | cons x r ih =>
    cases r with
    | nil => simp [pricesO]
    | cons y t =>
      rw [pricesO_cons2]
      split <;> simp at ih ⊢ <;> omega
theorem sumAt_take {p : Int} {L : List Ord} {i : Nat} (hi : i < L.length) : sumAt p (L.take (i + 1)) = sumAt p (L.take i) + if L[i].price = p then L[i].qty else 0 := by
  unfold sumAt atP
  rw [List.take_succ_eq_append_getElem hi, List.filter_append, sumQ_append]
  by_cases h : L[i].price = p <;> simp [h, sumQ]
theorem sumQ_bounds {L : List Ord} {c : Int} (h : ∀ o ∈ L, 0 ≤ o.qty ∧ o.qty ≤ c) : 0 ≤ sumQ L ∧ sumQ L ≤ (L.length : Int) * c := by
  induction L with
  | nil => simp [sumQ]
  | cons x r ih =>
    have h1 := h x (by simp)
    have h2 := ih fun o ho => h o (List.mem_cons_of_mem _ ho)
    rw [sumQ_cons]
    simp only [List.length_cons]
    push_cast
    rw [Int.add_mul]
    omega
theorem sumAt_bounds {p : Int} {L : List Ord} (h : ∀ o ∈ L, 0 ≤ o.qty ∧ o.qty ≤ 1073741824) (hl : L.length ≤ 256) : 0 ≤ sumAt p L ∧ sumAt p L ≤ 274877906944 := by
  have h1 := sumQ_bounds (L := atP p L) (c := 1073741824) fun o ho => h o (List.mem_filter.1 ho).1
  have h2 : (atP p L).length ≤ L.length := List.length_filter_le _ _
  unfold sumAt
  omega
end Go.Proofs.Ytdmmpcdilkcfjaa
