/- Records, their bytes, and what is read of any bytes: plain mathematics. -/
import Derived.Test.YtdmmpcdilkcfjaaPlainNums
import Derived.Test.YtdmmpcdilkcfjaaPlainFrame
namespace Agio
open Go

/-- A record. -/
structure Rc where
  kind : Int
  slot : Int
  round : Int
  site : Int
  val : List UInt8
/-- May a record be? -/
structure Rc.May (r : Rc) : Prop where
  kind : r.kind = 1 ∧ r.val.length = 0 ∨ r.kind = 2
  slot : 0 ≤ r.slot ∧ r.slot ≤ 4095
  round : 0 ≤ r.round ∧ r.round ≤ 1099511627776
  site : 0 ≤ r.site ∧ r.site ≤ 6
  val : r.val.length ≤ 2048
def Rc.ns (r : Rc) : List Nat := [r.kind.toNat, r.slot.toNat, r.round.toNat, r.site.toNat]
def Rc.bytes (r : Rc) : List UInt8 := bodyB r.ns r.val
def msA : List Int := [2, 4095, 1099511627776, 6]
def msB : List Int := [1099511627776, 1099511627776, 1099511627776, 1099511627776]
theorem msA_le : ∀ m ∈ msA, m ≤ 9223372036854775807 := by unfold msA; simp
theorem msB_le : ∀ m ∈ msB, m ≤ 9223372036854775807 := by unfold msB; simp
theorem Rc.May.fitsA {r : Rc} (h : r.May) : Fits r.ns msA := by
  have h1 := h.kind; have h2 := h.slot; have h3 := h.round; have h4 := h.site
  unfold Rc.ns msA
  refine ⟨by omega, by omega, by omega, by omega, trivial⟩
theorem Rc.May.fitsB {r : Rc} (h : r.May) : Fits r.ns msB := by
  have h1 := h.kind; have h2 := h.slot; have h3 := h.round; have h4 := h.site
  unfold Rc.ns msB
  refine ⟨by omega, by omega, by omega, by omega, trivial⟩
theorem Rc.May.U {r : Rc} (h : r.May) : ∀ n ∈ r.ns, U64 n := by
  have h1 := h.kind; have h2 := h.slot; have h3 := h.round; have h4 := h.site
  intro n hn
  simp only [Rc.ns, List.mem_cons, List.not_mem_nil, or_false] at hn
  unfold U64
  rcases hn with rfl | rfl | rfl | rfl <;> omega
theorem Rc.May.len {r : Rc} (h : r.May) : r.bytes.length ≤ 2100 := by
  have := bodyB_len h.U h.val
  have := h.val
  have : r.ns.length = 4 := rfl
  unfold Rc.bytes
  omega
/-- r is the record of b. -/
def DecR (b : List UInt8) (r : Rc) : Prop := r.May ∧ r.bytes = b
theorem DecR.inj {b : List UInt8} {r r' : Rc} (h : DecR b r) (h' : DecR b r') : r = r' := by
  obtain ⟨e1, e2⟩ := bodyB_inj msB_le h.1.fitsB h'.1.fitsB h.1.val h'.1.val (h.2.trans h'.2.symm)
  have h1 := h.1.kind; have h2 := h.1.slot; have h3 := h.1.round; have h4 := h.1.site
  have k1 := h'.1.kind; have k2 := h'.1.slot; have k3 := h'.1.round; have k4 := h'.1.site
  obtain ⟨a, b, c, d, v⟩ := r
  obtain ⟨a', b', c', d', v'⟩ := r'
  simp only [Rc.ns, List.cons.injEq, and_true] at e1 e2 h1 h2 h3 h4 k1 k2 k3 k4
  subst e2
  obtain rfl : a = a' := by omega
  obtain rfl : b = b' := by omega
  obtain rfl : c = c' := by omega
  obtain rfl : d = d' := by omega
  rfl
/-- The record of four numbers and bytes. -/
def Rc.of (k s t u : Nat) (v : List UInt8) : Rc := ⟨k, s, t, u, v⟩
theorem dec_body {b : List UInt8} {ms : List Int} (hms : ms = msA ∨ ms = msB) {k s t u : Nat} {v : List UInt8} (h : body b ms = some ([k, s, t, u], v)) :
    (Rc.of k s t u v).bytes = b ∧ ∀ r, DecR b r → r = Rc.of k s t u v := by
  obtain ⟨h1, h2, h3⟩ := body_ok h
  have hb : (Rc.of k s t u v).bytes = b := by rw [h3]; rfl
  refine ⟨hb, fun r hr => ?_⟩
  have hf : Fits r.ns ms := by
    rcases hms with rfl | rfl
    · exact hr.1.fitsA
    · exact hr.1.fitsB
  have hle : ∀ m ∈ ms, m ≤ 9223372036854775807 := by
    rcases hms with rfl | rfl
    · exact msA_le
    · exact msB_le
  obtain ⟨e1, e2⟩ := bodyB_inj hle hf h1 hr.1.val h2 (hr.2.trans h3)
  have k1 := hr.1.kind; have k2 := hr.1.slot; have k3 := hr.1.round; have k4 := hr.1.site
  obtain ⟨a', b', c', d', v'⟩ := r
  simp only [Rc.ns, List.cons.injEq, and_true] at e1 e2 k1 k2 k3 k4
  subst e2
  unfold Rc.of
  congr 1 <;> omega
theorem dec_none {b : List UInt8} {ms : List Int} (hms : ms = msA ∨ ms = msB) (h : body b ms = none) : ∀ r, ¬ DecR b r := by
  intro r hr
  rcases hms with rfl | rfl
  · exact body_none msA_le h hr.1.fitsA hr.1.val hr.2.symm
  · exact body_none msB_le h hr.1.fitsB hr.1.val hr.2.symm
open Classical in
/-- The record of bytes, if they are one's. -/
noncomputable def decR (b : List UInt8) : Option Rc := if h : ∃ r, DecR b r then some h.choose else none
theorem decR_some {b : List UInt8} {r : Rc} (h : DecR b r) : decR b = some r := by
  have hx : ∃ r, DecR b r := ⟨r, h⟩
  unfold decR
  rw [dif_pos hx, hx.choose_spec.inj h]
theorem decR_none {b : List UInt8} (h : ∀ r, ¬ DecR b r) : decR b = none := by
  unfold decR
  rw [dif_neg (fun ⟨r, hr⟩ => h r hr)]
theorem decR_ok {b : List UInt8} {r : Rc} (h : decR b = some r) : DecR b r := by
  unfold decR at h
  split at h
  · rename_i hx
    rw [← Option.some.inj h]; exact hx.choose_spec
  · cases h
theorem decR_no {b : List UInt8} (h : decR b = none) : ∀ r, ¬ DecR b r := fun r hr => by rw [decR_some hr] at h; cases h

/-- Records in frames. -/
def layB (l : List Rc) : List UInt8 := (l.map Rc.bytes).flatMap put
theorem layB_append (a b : List Rc) : layB (a ++ b) = layB a ++ layB b := by simp [layB]
theorem layB_cons (r : Rc) (l : List Rc) : layB (r :: l) = put r.bytes ++ layB l := rfl
theorem layB_take {l : List Rc} {i : Nat} (h : i < l.length) : layB (l.take (i + 1)) = layB (l.take i) ++ put l[i].bytes := by
  rw [List.take_succ_eq_append_getElem h, layB_append]; simp [layB]
theorem layB_len {l : List Rc} (h : ∀ r ∈ l, r.May) : (layB l).length ≤ 2108 * l.length := by
  induction l with
  | nil => simp [layB]
  | cons r l ih =>
    have h0 := (h r (by simp)).len
    have h1 := ih fun m hm => h m (by simp [hm])
    rw [layB_cons, List.length_append, put_len, List.length_cons]
    omega
noncomputable def rdAll : List (List UInt8) → List Rc × Nat
  | [] => ([], 0)
  | x :: xs => match decR x with
    | none => ([], 0)
    | some r => (r :: (rdAll xs).1, 8 + x.length + (rdAll xs).2)
noncomputable def readB (b : List UInt8) : List Rc × Nat := rdAll (scan b).1
theorem rdAll_lay {l : List Rc} (h : ∀ r ∈ l, r.May) (xs : List (List UInt8)) : rdAll (l.map Rc.bytes ++ xs) = (l ++ (rdAll xs).1, (layB l).length + (rdAll xs).2) := by
  induction l with
  | nil => simp [layB]
  | cons r l ih =>
    rw [List.map_cons, List.cons_append]
    simp only [rdAll, decR_some ⟨h r (by simp), rfl⟩, ih fun m hm => h m (by simp [hm]), layB_cons, List.cons_append, List.length_append, put_len, Prod.mk.injEq, true_and]
    omega
theorem readB_lay {l : List Rc} (h : ∀ r ∈ l, r.May) (r : List UInt8) : readB (layB l ++ r) = (l ++ (readB r).1, (layB l).length + (readB r).2) := by
  have hl : ∀ b ∈ l.map Rc.bytes, b.length ≤ 4096 := by
    intro b hb
    obtain ⟨x, hx, rfl⟩ := List.mem_map.1 hb
    have := (h x hx).len; omega
  unfold readB layB
  rw [scan_puts hl, rdAll_lay h]; rfl
theorem readB_lay' {l : List Rc} (h : ∀ r ∈ l, r.May) : readB (layB l) = (l, (layB l).length) := by
  have := readB_lay h []
  rw [List.append_nil] at this
  rw [this, readB, scan_nil]; simp [rdAll]
theorem rdAll_ok (xs : List (List UInt8)) : ∃ m, m ≤ xs.length ∧ (rdAll xs).1.map Rc.bytes = xs.take m ∧ (rdAll xs).2 = ((xs.take m).flatMap put).length ∧ ∀ r ∈ (rdAll xs).1, r.May := by
  induction xs with
  | nil => exact ⟨0, by simp, by simp [rdAll], by simp [rdAll], by simp [rdAll]⟩
  | cons x xs ih =>
    obtain ⟨m, h1, h2, h3, h4⟩ := ih
    cases hd : decR x with
    | none => exact ⟨0, by simp, by simp [rdAll, hd], by simp [rdAll, hd], by simp [rdAll, hd]⟩
    | some r =>
      have hr := decR_ok hd
      refine ⟨m + 1, by simp; omega, by simp [rdAll, hd, h2, hr.2], by simp [rdAll, hd, h3], ?_⟩
      simp only [rdAll, hd]
      intro y hy
      rcases List.mem_cons.1 hy with rfl | hy
      · exact hr.1
      · exact h4 y hy
theorem readB_ok (b : List UInt8) : (readB b).2 ≤ b.length ∧ layB (readB b).1 = b.take (readB b).2 ∧ ∀ r ∈ (readB b).1, r.May := by
  obtain ⟨h1, h2, h3⟩ := scan_ok b
  obtain ⟨m, k1, k2, k3, k4⟩ := rdAll_ok (scan b).1
  have hs : (scan b).1.flatMap put = ((scan b).1.take m).flatMap put ++ ((scan b).1.drop m).flatMap put := by
    rw [← List.flatMap_append, List.take_append_drop]
  have hl := congrArg List.length h2
  rw [hs, List.length_take, List.length_append] at hl
  unfold readB
  refine ⟨by rw [k3]; omega, ?_, k4⟩
  unfold layB
  rw [k2, k3]
  have e : b = (((scan b).1.take m).flatMap put ++ ((scan b).1.drop m).flatMap put) ++ b.drop (scan b).2 := by
    rw [← hs, ← h2, List.take_append_drop]
  generalize ((scan b).1.take m).flatMap put = p at *
  generalize ((scan b).1.drop m).flatMap put = q at *
  generalize b.drop (scan b).2 = z at *
  rw [e, List.append_assoc, List.take_left']; rfl
theorem readB_torn {l : List Rc} (h : ∀ r ∈ l, r.May) (k : Nat) (hk : k ≤ (layB l).length) :
    ∃ m, m ≤ l.length ∧ (readB ((layB l).take k)).1 = l.take m ∧ (readB ((layB l).take k)).2 = (layB (l.take m)).length ∧ (layB (l.take m)).length ≤ k ∧ (∀ (hm : m < l.length), k < (layB (l.take m)).length + (put l[m].bytes).length) := by
  have hl : ∀ b ∈ l.map Rc.bytes, b.length ≤ 4096 := by
    intro b hb
    obtain ⟨x, hx, rfl⟩ := List.mem_map.1 hb
    have := (h x hx).len; omega
  obtain ⟨m, h1, h2, h3, h4, h5⟩ := scan_torn hl k hk
  have hx := rdAll_lay (l := l.take m) (fun r hr => h r (List.mem_of_mem_take hr)) []
  rw [List.append_nil, List.map_take] at hx
  unfold readB layB
  rw [h2, hx]
  rw [← List.map_take] at h4 h5
  refine ⟨m, by simpa using h1, by simp [rdAll], by simp [rdAll, layB], h4, fun hm => ?_⟩
  have := h5 (by simpa using hm)
  simpa using this
end Agio
