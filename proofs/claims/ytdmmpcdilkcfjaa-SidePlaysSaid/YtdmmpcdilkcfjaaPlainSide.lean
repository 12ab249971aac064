/- Orders of a side as lists: where a new one stands, what is cut, what is dropped; prices and rows. Plain lists, no program in sight. -/
namespace Agio

structure Ord where
  id : Int
  client : Int
  side : Int
  price : Int
  qty : Int
  peg : Bool
  off : Int

theorem Ord.ext_ {a b : Ord} (h1 : a.id = b.id) (h2 : a.client = b.client) (h3 : a.side = b.side) (h4 : a.price = b.price) (h5 : a.qty = b.qty) (h6 : a.peg = b.peg) (h7 : a.off = b.off) : a = b := by
  cases a; cases b; simp_all

/-- Is a price better than another one, on a side? -/
def better (s a b : Int) : Bool := if s = 1 then decide (b < a) else decide (a < b)
theorem better_irrefl (s a : Int) : better s a a = false := by unfold better; split <;> simp
theorem better_trans {s a b c : Int} (h : better s a b = true) (k : better s b c = true) : better s a c = true := by
  unfold better at *; split at h <;> simp_all <;> omega
theorem better_asymm {s a b : Int} (h : better s a b = true) : better s b a = false := by
  unfold better at *; split at h <;> simp_all <;> omega
theorem better_total {s a b : Int} (h : better s a b = false) (k : better s b a = false) : a = b := by
  unfold better at *; split at h <;> simp_all <;> omega
theorem better_of_not {s a b : Int} (h : better s a b = false) (k : a ≠ b) : better s b a = true := by
  cases hb : better s b a
  · exact absurd (better_total h hb) k
  · rfl

/-- Orders stand the better price first. -/
def Rising (s : Int) (L : List Ord) : Prop := L.Pairwise fun a b => better s b.price a.price = false

/-- A new order stands behind all that aren't worse. -/
def insO (s : Int) (o : Ord) : List Ord → List Ord
  | [] => [o]
  | x :: r => if better s o.price x.price = true then o :: x :: r else x :: insO s o r

theorem insO_perm (s : Int) (o : Ord) (L : List Ord) : (insO s o L).Perm (o :: L) := by
  induction L with
  | nil => exact .refl _
  | cons x r ih =>
    unfold insO
    split
    · exact .refl _
    · exact (ih.cons x).trans (.swap _ _ _)
theorem insO_len (s : Int) (o : Ord) (L : List Ord) : (insO s o L).length = L.length + 1 := by simpa using (insO_perm s o L).length_eq
theorem mem_insO {s : Int} {o x : Ord} {L : List Ord} : x ∈ insO s o L ↔ x = o ∨ x ∈ L := by rw [(insO_perm s o L).mem_iff]; simp

theorem insO_rising {s : Int} {o : Ord} {L : List Ord} (h : Rising s L) : Rising s (insO s o L) := by
  induction L with
  | nil => simp [insO, Rising]
  | cons x r ih =>
    unfold Rising at h ih
    rw [List.pairwise_cons] at h
    unfold insO
    split
    · rename_i hb
      unfold Rising
      refine List.pairwise_cons.2 ⟨fun y hy => ?_, List.pairwise_cons.2 h⟩
      rcases List.mem_cons.1 hy with rfl | hy
      · exact better_asymm hb
      · cases hc : better s y.price o.price
        · rfl
        · have := better_trans hc hb
          rw [h.1 y hy] at this
          cases this
    · rename_i hb
      unfold Rising
      refine List.pairwise_cons.2 ⟨fun y hy => ?_, ih h.2⟩
      rcases mem_insO.1 hy with rfl | hy
      · simpa using hb
      · exact h.1 y hy

/-- The orders at a price. -/
def atP (p : Int) (L : List Ord) : List Ord := L.filter fun o => decide (o.price = p)

theorem atP_none {p : Int} {L : List Ord} (h : ∀ x ∈ L, x.price ≠ p) : atP p L = [] := by
  unfold atP
  rw [List.filter_eq_nil_iff]
  intro x hx
  simpa using h x hx

theorem atP_ins_same {s : Int} {o : Ord} {L : List Ord} (h : Rising s L) : atP o.price (insO s o L) = atP o.price L ++ [o] := by
  induction L with
  | nil => simp [insO, atP]
  | cons x r ih =>
    unfold Rising at h
    rw [List.pairwise_cons] at h
    unfold insO
    split
    · rename_i hb
      have hx : ∀ y ∈ x :: r, y.price ≠ o.price := by
        intro y hy e
        rcases List.mem_cons.1 hy with rfl | hy
        · rw [e, better_irrefl] at hb; cases hb
        · have := h.1 y hy
          rw [e, hb] at this; cases this
      rw [atP_none hx]
      have h0 := atP_none hx
      unfold atP at h0 ⊢
      rw [List.filter_cons, h0]
      simp
    · have e := ih h.2
      unfold atP at e ⊢
      rw [List.filter_cons, List.filter_cons, e]
      split <;> rfl
theorem atP_ins_other {s p : Int} {o : Ord} {L : List Ord} (hp : o.price ≠ p) : atP p (insO s o L) = atP p L := by
  induction L with
  | nil => simp [insO, atP, hp]
  | cons x r ih =>
    unfold insO
    split
    · unfold atP; simp [List.filter_cons, hp]
    · unfold atP at ih ⊢
      rw [List.filter_cons, List.filter_cons, ih]

/-- An order by its number. -/
def findO (id : Int) (L : List Ord) : Option Ord := L.find? fun o => decide (o.id = id)
/-- Less of one. -/
def cutO (id q : Int) (L : List Ord) : List Ord := L.map fun o => if o.id = id then { o with qty := q } else o
/-- One taken out. -/
def dropO (id : Int) (L : List Ord) : List Ord := L.filter fun o => !decide (o.id = id)

/-- An order that may rest on the side. -/
def mayO (s : Int) (o : Ord) : Bool := decide (o.side = s ∧ 1 ≤ o.id ∧ 1 ≤ o.price ∧ o.price ≤ 1073741824 ∧ 1 ≤ o.qty ∧ o.qty ≤ 1073741824)

/-- What holds of a side's orders. -/
structure Sd (s : Int) (L : List Ord) : Prop where
  rising : Rising s L
  ids : (L.map Ord.id).Nodup
  may : ∀ o ∈ L, mayO s o = true
  len : L.length ≤ 256

theorem findO_some {id : Int} {L : List Ord} {o : Ord} (h : findO id L = some o) : o ∈ L ∧ o.id = id := by
  unfold findO at h
  exact ⟨List.mem_of_find?_eq_some h, by simpa using List.find?_some h⟩
theorem findO_none {id : Int} {L : List Ord} (h : findO id L = none) : ∀ o ∈ L, o.id ≠ id := by
  unfold findO at h
  intro o ho
  simpa using List.find?_eq_none.1 h o ho
theorem nodup_mem_inj {L : List Ord} (h : (L.map Ord.id).Nodup) {a b : Ord} (ha : a ∈ L) (hb : b ∈ L) (e : a.id = b.id) : a = b := by
  induction L with
  | nil => cases ha
  | cons x r ih =>
    rw [List.map_cons, List.nodup_cons] at h
    rcases List.mem_cons.1 ha with e1 | ha <;> rcases List.mem_cons.1 hb with e2 | hb
    · rw [e1, e2]
    · exact absurd (List.mem_map.2 ⟨b, hb, by rw [← e, e1]⟩) h.1
    · exact absurd (List.mem_map.2 ⟨a, ha, by rw [e, e2]⟩) h.1
    · exact ih h.2 ha hb
theorem findO_mem {L : List Ord} (h : (L.map Ord.id).Nodup) {o : Ord} (ho : o ∈ L) : findO o.id L = some o := by
  cases hf : findO o.id L with
  | none => exact absurd rfl (findO_none hf o ho)
  | some x =>
    obtain ⟨hx, he⟩ := findO_some hf
    rw [nodup_mem_inj h hx ho he]
theorem findO_ins {s id : Int} {o : Ord} {L : List Ord} (h : findO o.id L = none) : findO id (insO s o L) = if o.id = id then some o else findO id L := by
  induction L with
  | nil => simp [insO, findO, List.find?_cons]; split <;> simp_all
  | cons x r ih =>
    have hx : x.id ≠ o.id := findO_none h x (by simp)
    have hr : findO o.id r = none := by
      unfold findO at h ⊢
      rw [List.find?_cons] at h
      simpa [hx] using h
    unfold insO
    split
    · unfold findO
      simp only [List.find?_cons]
      by_cases e : o.id = id <;> simp [e]
    · have e := ih hr
      unfold findO at e ⊢
      simp only [List.find?_cons]
      rw [e]
      by_cases e1 : x.id = id
      · simp [e1, show ¬ o.id = id from fun e2 => hx (e1.trans e2.symm)]
      · simp [e1]

theorem Sd.nil (s : Int) : Sd s [] := ⟨List.Pairwise.nil, by simp, by simp, by simp⟩
theorem Sd.ins {s : Int} {L : List Ord} {o : Ord} (h : Sd s L) (hm : mayO s o = true) (hf : findO o.id L = none) (hl : L.length < 256) : Sd s (insO s o L) where
  rising := insO_rising h.rising
  ids := by
    rw [((insO_perm s o L).map Ord.id).nodup_iff, List.map_cons, List.nodup_cons]
    exact ⟨fun hm => by obtain ⟨x, hx, e⟩ := List.mem_map.1 hm; exact findO_none hf x hx e, h.ids⟩
  may := fun x hx => by
    rcases mem_insO.1 hx with rfl | hx
    · exact hm
    · exact h.may x hx
  len := by rw [insO_len]; omega
theorem cutO_ids (id q : Int) (L : List Ord) : (cutO id q L).map Ord.id = L.map Ord.id := by
  unfold cutO
  rw [List.map_map]
  refine List.map_congr_left fun x _ => ?_
  simp only [Function.comp]
  split <;> simp_all
theorem cutO_prices (id q : Int) (L : List Ord) : (cutO id q L).map Ord.price = L.map Ord.price := by
  unfold cutO
  rw [List.map_map]
  refine List.map_congr_left fun x _ => ?_
  simp only [Function.comp]
  split <;> simp_all
theorem cutO_len (id q : Int) (L : List Ord) : (cutO id q L).length = L.length := by simp [cutO]
theorem Sd.cut {s id q : Int} {L : List Ord} (h : Sd s L) (h1 : 1 ≤ q) (h2 : q ≤ 1073741824) : Sd s (cutO id q L) where
  rising := by
    have := h.rising
    unfold Rising cutO at *
    rw [List.pairwise_map]
    refine this.imp fun {a b} hab => ?_
    split <;> split <;> exact hab
  ids := by rw [cutO_ids]; exact h.ids
  may := fun x hx => by
    obtain ⟨y, hy, rfl⟩ := List.mem_map.1 hx
    have := h.may y hy
    split
    · simp only [mayO, decide_eq_true_eq] at this ⊢; omega
    · exact this
  len := by rw [cutO_len]; exact h.len
theorem Sd.drop {s id : Int} {L : List Ord} (h : Sd s L) : Sd s (dropO id L) where
  rising := List.Pairwise.filter _ h.rising
  ids := List.Nodup.sublist (List.Sublist.map _ List.filter_sublist) h.ids
  may := fun x hx => h.may x (List.mem_filter.1 hx).1
  len := Nat.le_trans (List.length_filter_le _ _) h.len

theorem findO_cut {id q i : Int} {L : List Ord} : findO i (cutO id q L) = (findO i L).map fun o => if o.id = id then { o with qty := q } else o := by
  unfold findO cutO
  rw [List.find?_map]
  congr 1
  refine congrArg (fun f => List.find? f L) (funext fun x => ?_)
  simp only [Function.comp]
  split <;> simp_all
theorem findO_drop {id i : Int} {L : List Ord} : findO i (dropO id L) = if i = id then none else findO i L := by
  unfold findO dropO
  rw [List.find?_filter]
  split
  · rename_i e
    subst e
    rw [List.find?_eq_none]
    intro x _
    simp
  · rename_i e
    refine congrArg (fun f => List.find? f L) (funext fun x => ?_)
    by_cases h : x.id = i
    · simp [h, e]
    · simp [h]
theorem atP_cut {p id q : Int} {L : List Ord} : atP p (cutO id q L) = cutO id q (atP p L) := by
  unfold atP cutO
  rw [List.filter_map]
  congr 1
  refine congrArg (fun f => List.filter f L) (funext fun x => ?_)
  simp only [Function.comp]
  split <;> simp_all
theorem atP_drop {p id : Int} {L : List Ord} : atP p (dropO id L) = dropO id (atP p L) := by
  unfold atP dropO
  rw [List.filter_filter, List.filter_filter]
  refine congrArg (fun f => List.filter f L) (funext fun x => ?_)
  exact Bool.and_comm _ _
theorem cutO_none {id q : Int} {L : List Ord} (h : ∀ o ∈ L, o.id ≠ id) : cutO id q L = L := by
  unfold cutO
  conv => rhs; rw [← List.map_id L]
  refine List.map_congr_left fun x hx => ?_
  simp [h x hx]
theorem dropO_none {id : Int} {L : List Ord} (h : ∀ o ∈ L, o.id ≠ id) : dropO id L = L := by
  unfold dropO
  rw [List.filter_eq_self]
  intro x hx
  simp [h x hx]

/-! ### Rows of prices -/
/-- The prices, each once, as they stand. -/
def pricesO : List Ord → List Int
  | [] => []
  | x :: r => match r with
    | [] => [x.price]
    | y :: _ => if x.price = y.price then pricesO r else x.price :: pricesO r

/-- Prices that are all of a list's, the better one first. -/
structure PricesOf (s : Int) (ps : List Int) (L : List Ord) : Prop where
  sorted : ps.Pairwise fun a b => better s a b = true
  all : ∀ p, p ∈ ps ↔ ∃ x ∈ L, x.price = p

theorem PricesOf.split {s : Int} {p : Int} {ps : List Int} {L : List Ord} (h : PricesOf s (p :: ps) L) (hL : Rising s L) :
    L = atP p L ++ L.filter (fun o => !decide (o.price = p)) ∧ PricesOf s ps (L.filter fun o => !decide (o.price = p)) := by
  have hs := List.pairwise_cons.1 h.sorted
  have hbest : ∀ x ∈ L, x.price ≠ p → better s p x.price = true := by
    intro x hx hne
    have := (h.all x.price).2 ⟨x, hx, rfl⟩
    rcases List.mem_cons.1 this with e | e
    · exact absurd e hne
    · exact hs.1 _ e
  refine ⟨?_, hs.2, fun q => ?_⟩
  · clear h hs
    induction L with
    | nil => simp [atP]
    | cons x r ih =>
      unfold Rising at hL
      rw [List.pairwise_cons] at hL
      by_cases e : x.price = p
      · have := ih hL.2 fun y hy => hbest y (List.mem_cons_of_mem _ hy)
        unfold atP at this ⊢
        rw [List.filter_cons, List.filter_cons]
        simp only [e, decide_true, if_true, Bool.not_true, Bool.false_eq_true, if_false]
        rw [List.cons_append, ← this]
      · have hn : ∀ y ∈ x :: r, y.price ≠ p := by
          intro y hy e2
          rcases List.mem_cons.1 hy with rfl | hy
          · exact e e2
          · have h1 := hL.1 y hy
            rw [e2, hbest x (by simp) e] at h1
            cases h1
        rw [atP_none hn, List.nil_append, List.filter_eq_self.2]
        intro y hy
        simp [hn y hy]
  · constructor
    · intro hq
      obtain ⟨x, hx, e⟩ := (h.all q).1 (List.mem_cons_of_mem _ hq)
      refine ⟨x, List.mem_filter.2 ⟨hx, ?_⟩, e⟩
      have hne : q ≠ p := by
        rintro rfl
        have := hs.1 _ hq
        rw [better_irrefl] at this; cases this
      simpa [e] using hne
    · rintro ⟨x, hx, e⟩
      obtain ⟨hx, hne⟩ := List.mem_filter.1 hx
      rcases List.mem_cons.1 ((h.all q).2 ⟨x, hx, e⟩) with rfl | h1
      · simp [e] at hne
      · exact h1

theorem Rising.filter_ {s : Int} {L : List Ord} (h : Rising s L) (f : Ord → Bool) : Rising s (L.filter f) := List.Pairwise.filter f h

theorem PricesOf.flat {s : Int} {ps : List Int} {L : List Ord} (h : PricesOf s ps L) (hL : Rising s L) : L = ps.flatMap fun p => atP p L := by
  induction ps generalizing L with
  | nil =>
    cases L with
    | nil => rfl
    | cons x r => exact absurd ((h.all x.price).2 ⟨x, by simp, rfl⟩) (by simp)
  | cons p ps ih =>
    obtain ⟨h1, h2⟩ := h.split hL
    have h3 := ih h2 (hL.filter_ _)
    conv => lhs; rw [h1, h3]
    rw [List.flatMap_cons]
    congr 1
    rw [List.flatMap_def, List.flatMap_def]
    congr 1
    refine List.map_congr_left fun q hq => ?_
    have hne : q ≠ p := by
      rintro rfl
      have := (List.pairwise_cons.1 h.sorted).1 _ hq
      rw [better_irrefl] at this; cases this
    unfold atP
    rw [List.filter_filter]
    refine congrArg (fun f => List.filter f L) (funext fun x => ?_)
    by_cases e : x.price = q
    · simp [e, hne]
    · simp [e]

theorem pricesO_row {p : Int} {l : List Ord} (hl : ∀ x ∈ l, x.price = p) (hne : l ≠ []) : pricesO l = [p] := by
  induction l with
  | nil => exact absurd rfl hne
  | cons x r ih =>
    cases r with
    | nil => simp [pricesO, hl x (by simp)]
    | cons y t =>
      have e1 := hl x (by simp)
      have e2 := hl y (by simp)
      have := ih (fun z hz => hl z (List.mem_cons_of_mem _ hz)) (by simp)
      unfold pricesO
      simp only [e1, e2, if_true]
      exact this
theorem pricesO_app {l r : List Ord} (hd : ∀ a ∈ l, ∀ b ∈ r, a.price ≠ b.price) : pricesO (l ++ r) = pricesO l ++ pricesO r := by
  induction l with
  | nil => simp [pricesO]
  | cons x t ih =>
    have ih := ih fun a ha b hb => hd a (List.mem_cons_of_mem _ ha) b hb
    cases t with
    | nil =>
      cases r with
      | nil => simp [pricesO]
      | cons y r' =>
        have := hd x (by simp) y (by simp)
        simp [pricesO, this]
    | cons y t' =>
      have e : pricesO (x :: (y :: t' ++ r)) = if x.price = y.price then pricesO (y :: t' ++ r) else x.price :: pricesO (y :: t' ++ r) := by
        rw [List.cons_append]; rfl
      have e2 : pricesO (x :: y :: t') = if x.price = y.price then pricesO (y :: t') else x.price :: pricesO (y :: t') := rfl
      rw [List.cons_append, e, ih, e2]
      split <;> rfl
theorem PricesOf.prices {s : Int} {ps : List Int} {L : List Ord} (h : PricesOf s ps L) (hL : Rising s L) : pricesO L = ps := by
  induction ps generalizing L with
  | nil =>
    cases L with
    | nil => rfl
    | cons x r => exact absurd ((h.all x.price).2 ⟨x, by simp, rfl⟩) (by simp)
  | cons p ps ih =>
    obtain ⟨h1, h2⟩ := h.split hL
    have h3 := ih h2 (hL.filter_ _)
    rw [h1, pricesO_app, h3, pricesO_row (p := p)]
    · rfl
    · intro x hx; simpa using (List.mem_filter.1 hx).2
    · obtain ⟨x, hx, e⟩ := (h.all p).1 (by simp)
      intro hn
      have : x ∈ atP p L := List.mem_filter.2 ⟨hx, by simpa using e⟩
      rw [hn] at this; cases this
    · intro a ha b hb e
      have e1 : a.price = p := by simpa using (List.mem_filter.1 ha).2
      have e2 := (List.mem_filter.1 hb).2
      simp [← e, e1] at e2

/-- What a price's orders have together. -/
def sumQ (L : List Ord) : Int := L.foldl (fun n o => n + o.qty) 0
def sumAt (p : Int) (L : List Ord) : Int := sumQ (atP p L)
theorem foldl_sum (l : List Ord) (n : Int) : l.foldl (fun n o => n + o.qty) n = n + sumQ l := by
  induction l generalizing n with
  | nil => simp [sumQ]
  | cons x r ih =>
    unfold sumQ
    rw [List.foldl_cons, List.foldl_cons, ih, ih]
    omega
theorem sumQ_cons (x : Ord) (l : List Ord) : sumQ (x :: l) = x.qty + sumQ l := by
  have := foldl_sum l (0 + x.qty)
  unfold sumQ at this ⊢
  rw [List.foldl_cons, this]; omega
theorem sumQ_append (a b : List Ord) : sumQ (a ++ b) = sumQ a + sumQ b := by
  unfold sumQ
  rw [List.foldl_append]
  exact foldl_sum b _
theorem sumQ_perm {a b : List Ord} (h : a.Perm b) : sumQ a = sumQ b := by
  induction h with
  | nil => rfl
  | cons x _ ih => rw [sumQ_cons, sumQ_cons, ih]
  | swap x y l => simp only [sumQ_cons]; omega
  | trans _ _ h1 h2 => rw [h1, h2]
end Agio
