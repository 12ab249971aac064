/- Packets under way: what a net's list is, in memory; append onto it, and one taken out. -/
import Derived.Test.YtdmkhmejpgjioaaDoorNet5
import Derived.Test.YtdmkhmejpgjioaaDoorStructs
import Derived.ArgAppend
import Derived.Deep.RegionLaw
set_option linter.all false
namespace Go.Proofs.YtdmkhmejpgjioaaDoor
open Go.RowKit Agio

/-- A packet. -/
structure Pk where
  to : Int
  A : Option Addr
  n : Nat
  c : Nat
  b : List UInt8
def Pk.cells (x : Pk) : List Value := [.int .i64 x.to, .slice x.A x.n x.c]
theorem Pk.cells_len (x : Pk) : x.cells.length = 2 := rfl
theorem Pk.one (l : List Pk) : ∀ u ∈ l.flatMap Pk.cells, u.oneCell' = true := by
  intro u hu
  obtain ⟨x, _, hx⟩ := List.mem_flatMap.1 hu
  simp only [Pk.cells, List.mem_cons, List.not_mem_nil, or_false] at hx
  rcases hx with rfl | rfl <;> rfl
theorem infoPk : (Tryd.prog.info? 163).map (fun i => (i.zero, i.size, i.bytes)) = some (some (.agg #[.int .i64 0, .slice none 0 0]), 2, 32) := by kernel_rfl

/-- A slice with no room behind, in a block of its own kind. -/
structure FullRow (e : TypeId) (w : World) (A : Option Addr) (n c : Nat) (xs : List Value) : Prop where
  cap : c = n
  rd : Rd w 2 A n xs
  blk : ∃ g cur, A = some ⟨g, 0, none⟩ ∧ w.heap[g]? = some (.cells cur e (0, 0))
/-- The list of a net. -/
structure PkL (w : World) (A : Option Addr) (n c : Nat) (l : List Pk) : Prop where
  len : n = l.length
  row : Own 163 2 w A n c (l.flatMap Pk.cells) ∨ FullRow 163 w A n c (l.flatMap Pk.cells)
section
variable {w w' : World} {A : Option Addr} {n c : Nat} {l : List Pk}
theorem PkL.nil (w : World) : PkL w none 0 0 [] := ⟨rfl, .inl (Own.nil _ _ _)⟩
theorem PkL.rd (h : PkL w A n c l) : Rd w 2 A n (l.flatMap Pk.cells) := by
  rcases h.row with h1 | h1
  · exact h1.rd
  · exact h1.rd
theorem PkL.rdS (h : PkL w A n c l) : RdS Pk.cells 2 w A n l := ⟨h.len, h.rd⟩
theorem PkL.le (h : PkL w A n c l) : n ≤ c := by
  rcases h.row with h1 | h1
  · exact h1.cap.1
  · rw [h1.cap]; exact Nat.le_refl _
theorem PkL.lt (h : PkL w A n c l) : ∀ k ∈ ablk A, k < w.heap.size := by
  rcases h.row with h1 | h1
  · exact h1.lt
  · obtain ⟨g, cur, rfl, hg⟩ := h1.blk
    intro k hk; simp [ablk] at hk; subst hk; exact (Array.getElem?_eq_some_iff.1 hg).1
theorem PkL.block (h : PkL w A n c l) : ∀ k ∈ ablk A, ∃ cur, w.heap[k]? = some (.cells cur 163 (0, 0)) := by
  rcases h.row with h1 | h1
  · intro k hk
    rcases h1.2 with ⟨hv, _⟩ | ⟨g, cap, cur, hv, _, hg, _⟩
    · injection hv with hA; subst hA; simp [ablk] at hk
    · injection hv with hA; subst hA; simp [ablk] at hk; subst hk; exact ⟨cur, hg⟩
  · obtain ⟨g, cur, rfl, hg⟩ := h1.blk
    intro k hk; simp [ablk] at hk; subst hk; exact ⟨cur, hg⟩
theorem PkL.upd {a b : List Nat} (h : PkL w A n c l) (hu : Upd a b w w') (hd : ∀ k ∈ ablk A, k ∉ a) : PkL w' A n c l := by
  refine ⟨h.len, ?_⟩
  rcases h.row with h1 | h1
  · exact .inl (h1.upd hu hd)
  · obtain ⟨g, cur, hA, hg⟩ := h1.blk
    exact .inr ⟨h1.cap, h1.rd.upd hu hd, g, cur, hA, (hu.block g (Array.getElem?_eq_some_iff.1 hg).1 (hd g (by simp [hA, ablk]))).trans hg⟩
theorem PkL.ne (h : PkL w A n c l) {g : Nat} {t : TypeId} {cs : Array Value} (hb : Blk w g t cs) (hne : t ≠ 163) : g ∉ ablk A := by
  intro hm
  obtain ⟨cur, hc⟩ := h.block g hm
  exact Blk.ne_ hb (cs' := cur) hc hne rfl
theorem PkL.apart (h : PkL w A n c l) {e : TypeId} {size : Nat} {A' : Option Addr} {n' c' : Nat} {xs : List Value} (ho : Own e size w A' n' c' xs) (hne : e ≠ 163) : ∀ k ∈ ablk A', k ∉ ablk A := by
  intro k hk hm
  obtain ⟨cur, hc⟩ := h.block k hm
  exact ho.ne (g := k) (cs := cur) hc hne hk
theorem PkL.alloc (h : PkL w A n c l) (o : Obj) : PkL (w.alloc o) A n c l := h.upd ((Upd.refl [] w).alloc o) (by simp)
end
theorem Own.of_row {e : TypeId} {size base : Nat} {w : World} {v : Value} {n : Nat} {xs : List Value} (h : w.ownsRow base e size v n xs) : (∃ A c, v = .slice A n c ∧ Own e size w A n c xs) ∧ ∀ A c, v = .slice A n c → 0 < n → ∀ k ∈ ablk A, base ≤ k := by
  rcases h.2 with ⟨hv, hn⟩ | ⟨g, cap, cur, hv, hb, rest⟩
  · subst hn
    refine ⟨⟨none, 0, hv, ⟨h.1, .inl ⟨rfl, rfl⟩⟩⟩, fun A c _ h0 => by omega⟩
  · refine ⟨⟨some ⟨g, 0, none⟩, cap, hv, ⟨h.1, .inr ⟨g, cap, cur, rfl, Nat.zero_le _, rest⟩⟩⟩, fun A c hv' _ k hk => ?_⟩
    rw [hv] at hv'
    injection hv' with hA
    subst hA
    simp [ablk] at hk
    omega
/-- One step of a region that draws its order: an append whose run is known. -/
theorem step_run {P : Program} {ops : Array Oper} {o : Oper} {a : Act} {w : World} {K : Act → World → Prop} {Q : Exit → Act → World → Prop} {E : Prop}
    (hg : o.guard = none) (s x : Operand) (t : TypeId) (hop : o.op = Op.call { callee := Callee.builtin Builtin.append, args := #[s, x], argTypes := #[t, t] })
    (vs vx v : Value) (w' : World) (hs : a.eval s = vs) (hx : a.eval x = vx) (hrun : (Builtin.append_ #[t, t] o.type #[vs, vx]).run P w = .ok v w') (hK : K (a.put o.dst v) w') :
    if Region.wanted o (yielded ops a.tmps) = true then Oper.wp P o a w K Q else E := by
  have hw : Region.wanted o (yielded ops a.tmps) = true := by simp [Region.wanted, hg]
  rw [if_pos hw]
  unfold Oper.wp
  simp [execOp, hop, resolve, invoke, builtin, hs, hx, hrun, Result.andThen]
  exact hK
set_option maxRecDepth 100000 in
/-- One packet more. -/
theorem PkL.push {w : World} {A : Option Addr} {n c : Nat} {l : List Pk} (h : PkL w A n c l) (x : Pk) (H m d : Nat) (hH : Blk w H 163 x.cells.toArray) (hl : l.length ≤ 5000) (ty : TypeId) :
    ∃ A' c' w', (Builtin.append_ #[158, 158] ty #[.slice A n c, .slice (some ⟨H, 0, none⟩) 1 1]).run Tryd.prog w = .ok (.slice A' (n + 1) c') w' ∧ PkL w' A' (n + 1) c' (l ++ [x]) ∧ Upd (ablk A) (ablk A') w w' := by
  have hn := h.len
  have hr : Rd w 2 (some ⟨H, 0, none⟩) 1 x.cells := Rd.blk hH rfl
  have hcat : (l ++ [x]).flatMap Pk.cells = l.flatMap Pk.cells ++ x.cells := by simp
  rcases h.row with h1 | h1
  · obtain ⟨A', c', w', hrun, ho, hu⟩ := run_app (P := Tryd.prog) w 158 ty 163 Tryd.underlying158 infoPk rfl (by decide) A n c _ h1 (some ⟨H, 0, none⟩) 1 1 x.cells hr (by intro u hu; simp only [Pk.cells, List.mem_cons, List.not_mem_nil, or_false] at hu; rcases hu with rfl | rfl <;> rfl) (by unfold maxLen; omega) (by omega)
    exact ⟨A', c', w', hrun, ⟨by simp [hn], .inl (by rw [hcat]; exact ho)⟩, hu⟩
  · obtain ⟨g, cur, rfl, hg⟩ := h1.blk
    obtain ⟨i, hi, hz, hsize, hby⟩ := info_parts infoPk
    obtain ⟨ad, e, hc⟩ := hr.2 (by omega)
    injection e with e; subst e
    have holds : ∀ j u, (l.flatMap Pk.cells)[j]? = some u → w.cell? ((⟨g, 0, none⟩ : Addr).add j) = some u := by
      intro j u hu
      rcases Nat.eq_zero_or_pos n with h0 | h0
      · have hl0 : l = [] := List.eq_nil_of_length_eq_zero (by omega)
        subst hl0; simp at hu
      · obtain ⟨ad', e', hc'⟩ := h1.rd.2 h0
        injection e' with e'; subst e'
        exact hc' j u hu
    obtain ⟨v', w', hrun, ho, hgr⟩ := run_append_arg_grows (P := Tryd.prog) w 158 ty 163 i _ 2 32 Tryd.underlying158 hi hz hsize hby rfl (by decide) ⟨g, 0, none⟩ n c _ h1.rd.1 holds ⟨H, 0, none⟩ 1 1 x.cells rfl hc (by rw [h1.cap]; omega) (by unfold maxLen; omega) (by omega)
    obtain ⟨⟨A', c', rfl, ho'⟩, hbase⟩ := Own.of_row ho
    exact ⟨A', c', w', hrun, ⟨by simp [hn], .inl (by rw [hcat]; exact ho')⟩, (((Upd.refl _ w).grown hgr (fun k h => by cases h)).gives (fun k hk => .inr (hbase A' c' rfl (by omega) k hk)))⟩
end Go.Proofs.YtdmkhmejpgjioaaDoor
