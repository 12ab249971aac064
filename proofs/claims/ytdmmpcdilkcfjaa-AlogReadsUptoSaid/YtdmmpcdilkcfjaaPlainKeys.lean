/- Rising lists of numbers: put into, taken out, sorted. Plain lists, no program in sight. -/
import Derived.Test.YtdmmpcdilkcfjaaMapI
import Derived.Lib.SlKeysI
namespace Agio
open Go Go.RowKit Go.Maps

/-- Rising, each number once. -/
abbrev Up (l : List Int) : Prop := l.Pairwise fun a b => a < b
theorem up_ext : ∀ {a b : List Int}, Up a → Up b → (∀ x, x ∈ a ↔ x ∈ b) → a = b
  | [], [], _, _, _ => rfl
  | [], y :: b, _, _, h => absurd ((h y).2 (by simp)) (by simp)
  | x :: a, [], _, _, h => absurd ((h x).1 (by simp)) (by simp)
  | x :: a, y :: b, ha, hb, h => by
    obtain ⟨h1, h2⟩ := List.pairwise_cons.1 ha
    obtain ⟨k1, k2⟩ := List.pairwise_cons.1 hb
    have e : x = y := by
      rcases List.mem_cons.1 ((h x).1 (by simp)) with e | e
      · exact e
      · rcases List.mem_cons.1 ((h y).2 (by simp)) with e' | e'
        · exact e'.symm
        · have := h1 _ e'; have := k1 _ e; omega
    subst e
    rw [up_ext h2 k2 fun z => ?_]
    have hz := h z
    simp only [List.mem_cons] at hz
    constructor
    · intro m
      rcases hz.1 (.inr m) with e | e
      · have := h1 z m; omega
      · exact e
    · intro m
      rcases hz.2 (.inr m) with e | e
      · have := k1 z m; omega
      · exact e
theorem up_nodup {l : List Int} (h : Up l) : l.Nodup := h.imp fun hab => by omega
/-- A rising list is what the sort makes of its numbers. -/
theorem sort_up {ss ks : List Int} (hp : ss.Perm ks) (hk : Up ks) : ss.mergeSort (fun x y => decide (x ≤ y)) = ks := by
  have h1 : (ss.mergeSort (fun x y => decide (x ≤ y))).Pairwise fun a b => decide (a ≤ b) = true :=
    List.pairwise_mergeSort (fun a b c h1 h2 => by simp only [decide_eq_true_eq] at *; omega) (fun a b => by simp only [Bool.or_eq_true, decide_eq_true_eq]; omega) ss
  refine List.Perm.eq_of_pairwise (le := fun a b => decide (a ≤ b) = true) (fun a b _ _ h1 h2 => by simp only [decide_eq_true_eq] at h1 h2; omega) h1 (hk.imp fun h => by simp only [decide_eq_true_eq]; omega) ((List.mergeSort_perm _ _).trans hp)

/-- A number put into a rising list. -/
def insU (x : Int) : List Int → List Int
  | [] => [x]
  | y :: r => if x < y then x :: y :: r else if x = y then y :: r else y :: insU x r
theorem mem_insU {x z : Int} {l : List Int} : z ∈ insU x l ↔ z = x ∨ z ∈ l := by
  induction l with
  | nil => simp [insU]
  | cons y r ih =>
    unfold insU
    split
    · simp
    · split
      · rename_i e; subst e; simp
      · simp only [List.mem_cons, ih]
        constructor
        · rintro (h | h | h) <;> simp [h]
        · rintro (h | h | h) <;> simp [h]
theorem insU_up {x : Int} {l : List Int} (h : Up l) : Up (insU x l) := by
  induction l with
  | nil => simp [insU]
  | cons y r ih =>
    obtain ⟨h1, h2⟩ := List.pairwise_cons.1 h
    unfold insU
    split
    · rename_i hxy
      refine List.pairwise_cons.2 ⟨fun z hz => ?_, h⟩
      rcases List.mem_cons.1 hz with rfl | hz
      · exact hxy
      · have := h1 z hz; omega
    · split
      · exact h
      · refine List.pairwise_cons.2 ⟨fun z hz => ?_, ih h2⟩
        rcases mem_insU.1 hz with rfl | hz
        · omega
        · exact h1 z hz
/-- A map's keys. -/
def keysK (M : KV) : List Int := M.map Prod.fst
theorem mem_keysK {x : Int} {M : KV} : x ∈ keysK M ↔ (lookK x M).isSome := by
  cases h : lookK x M with
  | none => simp only [Option.isSome_none, Bool.false_eq_true, iff_false]; intro hm; obtain ⟨p, hp, e⟩ := List.mem_map.1 hm; exact lookK_none.1 h p hp e
  | some v => simp only [Option.isSome_some, iff_true]; exact List.mem_map.2 ⟨_, lookK_some h, rfl⟩
theorem keysK_put {x : Int} {v : Value} {M : KV} (hM : Up (keysK M)) (hP : Up (keysK (putK x v M))) : keysK (putK x v M) = insU x (keysK M) := by
  refine up_ext hP (insU_up hM) fun z => ?_
  rw [mem_insU, mem_keysK, mem_keysK, lookK_put]
  by_cases e : x = z
  · simp [e]
  · rw [if_neg e]
    constructor
    · exact .inr
    · rintro (h | h)
      · exact absurd h.symm e
      · exact h
theorem intKeys_datK (M : KV) : intKeys (datK M) = keysK M := by
  unfold datK keysK intKeys
  simp only [List.map_map]
  exact List.map_congr_left fun p _ => rfl
end Agio
