/- A slice of items that came in, as the walk takes it. -/
import Derived.Test.YtchlceolccfdhaaDoorLaid
import Derived.Test.YtchlceolccfdhaaDoorItems
import Derived.Deep.Slices
import Derived.Deep.Fields
import Derived.Lib.SmallJoins
namespace Go.Proofs.YtchlceolccfdhaaDoor
open Go.ChangeShapes Go.WideShapes Go.RowKit Go.Deep Agio

section
variable {H : Type} {enc : TypeId × Value → H} {P : Program} {w : World} {base : Nat} {spare : Nat → Bool} {held : Bool}
/-- A slice of structs whose fields have one cell each. -/
theorem open_slice_fields {t e : TypeId} {fs : Array Field} {fuel : Nat} {cs : List Value} {x : DataW H × List MemPlace} (ht : P.underlying t = some (.slice e)) (he : P.underlying e = some (.struct fs))
    (hone : oneCellFields P fs = true) (hC : P.cellsOf e = fs.size) (h : DataW.trod enc P w base spare held fuel t cs = some x) :
    (cs = [.slice none 0 0] ∧ x = (.nil, [])) ∨
    ∃ (a : Addr) (len cap m : Nat) (D : Nat → DataW H) (Pl : Nat → List MemPlace), cs = [.slice (some a) len cap] ∧ base ≤ a.block ∧ len ≤ cap ∧ cap ≤ maxLen ∧ m = (if spare a.block then cap else len) ∧
      x = (.slice ((List.range len).map D) ((List.range (m - len)).map fun j => D (len + j)), MemPlace.row a (m * fs.size) ++ (List.range m).flatMap Pl) ∧
      ∀ i, i < m → ∃ (ys : List (DataW H × List MemPlace)) (n : Nat), D i = .agg (ys.map (·.1)) ∧ Pl i = ys.flatMap (·.2) ∧ ys.length = fs.size ∧
        ∀ (j : Nat) (f : Field), fs[j]? = some f → ∃ (v : Value) (y : DataW H × List MemPlace), w.cell? (a.add (i * fs.size + j)) = some v ∧ ys[j]? = some y ∧ DataW.trod enc P w base spare held n f.type [v] = some y := by
  rcases open_slice ht h with h0 | ⟨a, len, cap, m, n, D, Pl, hcs, hb, hl, hm, hmm, hx, hi⟩
  · exact .inl h0
  · refine .inr ⟨a, len, cap, m, D, Pl, hcs, hb, hl, hm, hmm, by rw [hC] at hx; exact hx, fun i him => ?_⟩
    obtain ⟨cs', hc, ht'⟩ := hi i him
    rw [hC] at hc
    obtain ⟨ys, n', hn', hy, hlen, hyl, hf⟩ := DataW.trod_struct he ht'
    obtain ⟨_, hcl, hat⟩ := World.cells?_some hc
    simp only [Prod.mk.injEq] at hy
    refine ⟨ys, n', hy.1, hy.2, hyl, fun j f hj => ?_⟩
    obtain ⟨ho, hk⟩ := hone_of hone j f hj
    have hjl : j < fs.size := (Array.getElem?_eq_some_iff.1 hj).1
    have hcell := hat j hjl
    have hv : cs'[j]? = some (cs'[j]'(by omega)) := List.getElem?_eq_getElem (by omega)
    have h1 := hf j f hj
    rw [ho, hk] at h1
    have hone' : (cs'.drop j).take 1 = [cs'[j]'(by omega)] := by
      rw [List.drop_eq_getElem_cons (by omega)]
      rfl
    rw [hone'] at h1
    have hys : ys[j]? = some (ys[j]'(by omega)) := List.getElem?_eq_getElem (by omega)
    refine ⟨_, _, ?_, hys, h1.trans hys⟩
    rw [← Go.Deep.add_add, hcell, hv]
end

/-- A list out of what each place bears. -/
theorem list_of {α : Type} {P : Nat → α → Prop} : ∀ (n : Nat), (∀ i, i < n → ∃ x, P i x) → ∃ l : List α, l.length = n ∧ ∀ i (h : i < l.length), P i l[i]
  | 0, _ => ⟨[], rfl, by simp⟩
  | n + 1, h => by
    obtain ⟨l, hl, hp⟩ := list_of n (fun i hi => h i (by omega))
    obtain ⟨x, hx⟩ := h n (by omega)
    refine ⟨l ++ [x], by simp [hl], fun i hi => ?_⟩
    rcases Nat.lt_or_ge i l.length with h1 | h1
    · rw [List.getElem_append_left h1]; exact hp i h1
    · obtain rfl : i = l.length := by simp at hi; omega
      rw [List.getElem_append_right (by omega)]; simpa [hl] using hx

theorem bulk_one {H : Type} (d : DataW H) : 1 ≤ Rows.uptoBulk d := by
  cases d with
  | lit l => cases l <;> simp [Rows.uptoBulk]
  | nil => simp [Rows.uptoBulk]
  | ptr d => simp [Rows.uptoBulk]
  | slice elems spare => simp [Rows.uptoBulk]
  | agg parts => simp [Rows.uptoBulk]
  | iface t d => simp [Rows.uptoBulk]
  | map entries => simp [Rows.uptoBulk]
  | held h => simp [Rows.uptoBulk]
theorem bulk_part {H : Type} {d : DataW H} {l : List (DataW H)} (h : d ∈ l) : Rows.uptoBulk d ≤ Rows.uptoBulkAll l := by
  induction l with
  | nil => cases h
  | cons x r ih =>
    simp only [Rows.uptoBulkAll]
    cases List.mem_cons.1 h with
    | inl e => subst e; omega
    | inr e => have := ih e; omega
theorem bulk_length {H : Type} (l : List (DataW H)) : l.length ≤ Rows.uptoBulkAll l := by
  induction l with
  | nil => simp [Rows.uptoBulkAll]
  | cons x r ih => have := bulk_one x; simp only [Rows.uptoBulkAll, List.length_cons]; omega
/-- Item by item the data weigh at least what the bytes weigh. -/
theorem bulk_items {H : Type} : ∀ (l : List It) (ds : List (DataW H)), ds.length = l.length → (∀ i (h : i < l.length), ∃ d, ds[i]? = some d ∧ l[i].b.length ≤ Rows.uptoBulk d) → (l.map fun x => x.b.length).sum ≤ Rows.uptoBulkAll ds
  | [], ds, _, _ => by simp
  | x :: l, [], h, _ => by simp at h
  | x :: l, d :: ds, h, hi => by
    have h0 := hi 0 (by simp)
    simp at h0
    have := bulk_items l ds (by simpa using h) (fun i hl => by have h2 := hi (i + 1) (by simpa using hl); rw [List.getElem_cons_succ, List.getElem?_cons_succ] at h2; exact h2)
    simp only [List.map_cons, List.sum_cons, Rows.uptoBulkAll]
    omega
theorem bytes_len {x : It} (h : U64 x.n) (hb : x.b.length < 9223372036854775808) : x.bytes.length ≤ x.b.length + 10 := by
  unfold It.bytes
  split
  · have := leb_len h; omega
  · split
    · have := leb_len (zig_U64 (I64_wrap (x.n : Int))); omega
    · have := leb_len (U64.small hb); simp; omega
theorem laid_len : ∀ (l : List It), (∀ x ∈ l, U64 x.n ∧ x.b.length < 9223372036854775808) → (l.flatMap It.bytes).length ≤ (l.map fun x => x.b.length).sum + 10 * l.length
  | [], _ => by simp
  | x :: l, h => by
    have h1 := bytes_len (h x (by simp)).1 (h x (by simp)).2
    have h2 := laid_len l (fun y hy => h y (by simp [hy]))
    simp only [List.flatMap_cons, List.length_append, List.map_cons, List.sum_cons, List.length_cons]
    omega
theorem sum_take (l : List Nat) (i : Nat) : (l.take i).sum ≤ l.sum := by
  induction l generalizing i with
  | nil => simp
  | cons x l ih => cases i with
    | zero => simp
    | succ i => have := ih i; simp; omega

set_option maxRecDepth 100000 in
theorem items_in {H : Type} {enc : TypeId × Value → H} {W : World} {base : Nat} {spare : Nat → Bool} {held : Bool} {a0 : Option Addr} {len cap : Nat} {d : DataW H} {p : List MemPlace}
    (h : DataW.Trod enc Tryd.prog W base spare held 22 (.slice a0 len cap) d p) :
    ∃ l : List It, Items W a0 len l ∧ len ≤ cap ∧ cap ≤ maxLen ∧ (len + 1 ≤ Rows.uptoBulk d) ∧ (l.map fun x => x.b.length).sum ≤ Rows.uptoBulk d := by
  obtain ⟨fuel, hf⟩ := h
  rcases open_slice_fields Tryd.underlying22 Tryd.underlying27 (by kernel_rfl) (by kernel_rfl) hf with ⟨hcs, hx⟩ | ⟨a, len', cap', m, D, Pl, hcs, _, hl, hm, hmm, hx, hi⟩
  · simp [Value.cells] at hcs
    obtain ⟨rfl, rfl, rfl⟩ := hcs
    simp only [Prod.mk.injEq] at hx
    rw [hx.1]
    exact ⟨[], ⟨rfl, Rd.none_, by simp⟩, by omega, by simp [maxLen], by simp [Rows.uptoBulk], by simp⟩
  · simp [Value.cells] at hcs
    obtain ⟨rfl, rfl, rfl⟩ := hcs
    simp only [Prod.mk.injEq] at hx
    have hlm : len ≤ m := by rw [hmm]; split <;> omega
    have each : ∀ i, i < len → ∃ x : It, (W.cell? (a.add (i * 3)) = some (.int .i64 x.kind) ∧ W.cell? (a.add (i * 3 + 1)) = some (.int .u64 (x.n : Int)) ∧ W.cell? (a.add (i * 3 + 2)) = some (.slice x.A x.k x.c)) ∧ (RdB W x.A x.k x.b ∧ U64 x.n) ∧ x.b.length ≤ Rows.uptoBulk (D i) := by
      intro i hil
      obtain ⟨ys, n, hD, _, hyl, hf⟩ := hi i (by omega)
      obtain ⟨v0, y0, c0, hy0, t0⟩ := hf 0 _ rfl
      obtain ⟨v1, y1, c1, hy1, t1⟩ := hf 1 _ rfl
      obtain ⟨v2, y2, c2, hy2, t2⟩ := hf 2 _ rfl
      obtain ⟨x0, e0, rfl, w0⟩ := DataW.trod_int Tryd.underlying3 t0
      obtain ⟨x1, e1, rfl, w1⟩ := DataW.trod_int Tryd.underlying25 t1
      obtain ⟨a2, l2, k2, e2⟩ := Go.Joins.slice_form Tryd.underlying24 t2
      simp at e0 e1 e2
      subst e0 e1 e2
      obtain ⟨b, hrd, _, _, _, hd⟩ := bytes_in (p := y2.2) (d := y2.1) (a0 := a2) (len := l2) (cap := k2) ⟨n, by simpa [Value.cells] using t2⟩
      have hb1 := bounds_u64 w1
      refine ⟨⟨x0, x1.toNat, a2, l2, k2, b⟩, ⟨c0, ?_, c2⟩, ⟨hrd, ?_⟩, ?_⟩
      · simpa [Int.toNat_of_nonneg hb1.1] using c1
      · unfold U64; simp only; omega
      · rw [hD]
        have hm2 : y2.1 ∈ ys.map (·.1) := List.mem_map.2 ⟨y2, List.mem_of_getElem? hy2, rfl⟩
        have := bulk_part hm2
        have h3 : b.length ≤ Rows.uptoBulk y2.1 := by
          rcases hd with ⟨_, rfl⟩ | ⟨sp, h3⟩
          · simp
          · rw [h3]; have := bulk_length (H := H) (b.map fun c => DataW.lit (.int .u8 (c.toNat : Int))); simp only [Rows.uptoBulk, List.length_map] at this ⊢; omega
        simp only [Rows.uptoBulk]; omega
    obtain ⟨l, hll, hp⟩ := list_of len each
    have hs : ∀ x : It, x.cells.length = 3 := fun _ => rfl
    refine ⟨l, ⟨hll.symm, ⟨by rw [flat_len hs, hll], fun _ => ⟨a, rfl, fun j u hu => ?_⟩⟩, fun x hx => ?_⟩, hl, hm, ?_, ?_⟩
    · have hj : j < l.length * 3 := by
        rcases Nat.lt_or_ge j (l.length * 3) with h | h
        · exact h
        · rw [List.getElem?_eq_none (by rw [flat_len hs]; exact h)] at hu; cases hu
      have hi3 : j / 3 < l.length := by omega
      have hj3 : j = j / 3 * 3 + j % 3 := by omega
      have ej : ∀ r, j % 3 = r → a.add j = a.add (j / 3 * 3 + r) := fun r h => by congr 1; omega
      rw [hj3, flat_get hs l (j / 3) (j % 3) hi3 (by omega)] at hu
      obtain ⟨⟨q0, q1, q2⟩, _⟩ := hp (j / 3) hi3
      have : j % 3 = 0 ∨ j % 3 = 1 ∨ j % 3 = 2 := by omega
      rcases this with h | h | h <;> rw [ej _ h] <;> rw [h] at hu <;> simp [It.cells] at hu <;> subst hu
      · simpa using q0
      · exact q1
      · exact q2
    · obtain ⟨i, hi', rfl⟩ := List.getElem_of_mem hx
      exact (hp i hi').2.1
    · rw [hx.1]; have := bulk_length ((List.range len).map D); simp only [Rows.uptoBulk, List.length_map, List.length_range] at this ⊢; omega
    · rw [hx.1]
      have := bulk_items l ((List.range len).map D) (by simp [hll]) (fun i h => ⟨D i, by rw [List.getElem?_map, List.getElem?_range (by omega)]; rfl, (hp i h).2.2⟩)
      simp only [Rows.uptoBulk]; omega
end Go.Proofs.YtchlceolccfdhaaDoor
