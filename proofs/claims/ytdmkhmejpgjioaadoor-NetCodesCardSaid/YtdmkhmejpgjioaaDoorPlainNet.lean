/- Messages, their bytes; a frame of which one byte was turned: plain mathematics. -/
import Derived.Test.YtdmkhmejpgjioaaDoorPlainNums
import Derived.Test.YtdmkhmejpgjioaaDoorPlainFrame
set_option linter.all false
namespace Agio
open Go

/-- A message. -/
structure Ms where
  kind : Int
  frm : Int
  to : Int
  slot : Int
  bround : Int
  bsite : Int
  hround : Int
  hsite : Int
  some_ : Bool
  val : List UInt8
/-- May a message be? -/
structure Ms.May (m : Ms) : Prop where
  kind : 1 ≤ m.kind ∧ m.kind ≤ 8
  frm : 0 ≤ m.frm ∧ m.frm ≤ 6
  to : 0 ≤ m.to ∧ m.to ≤ 6
  slot : 0 ≤ m.slot ∧ m.slot ≤ 4095
  bround : 0 ≤ m.bround ∧ m.bround ≤ 1099511627776
  bsite : 0 ≤ m.bsite ∧ m.bsite ≤ 6
  hround : 0 ≤ m.hround ∧ m.hround ≤ 1099511627776
  hsite : 0 ≤ m.hsite ∧ m.hsite ≤ 6
  val : m.val.length ≤ 2048
  some_ : m.some_ = true ∨ (m.hround = 0 ∧ m.hsite = 0) ∧ m.val.length = 0
def Ms.is (m : Ms) : Nat := if m.some_ then 1 else 0
theorem Ms.is_le (m : Ms) : m.is ≤ 1 := by unfold Ms.is; split <;> omega
def Ms.ns (m : Ms) : List Nat := [m.kind.toNat, m.frm.toNat, m.to.toNat, m.slot.toNat, m.bround.toNat, m.bsite.toNat, m.hround.toNat, m.hsite.toNat, m.is]
def Ms.inside (m : Ms) : List UInt8 := bodyB m.ns m.val
def Ms.bytes (m : Ms) : List UInt8 := put m.inside
def ms9 : List Int := List.replicate 9 1099511627776
theorem ms9_le : ∀ m ∈ ms9, m ≤ 9223372036854775807 := by unfold ms9; simp
theorem Ms.May.fits {m : Ms} (h : m.May) : Fits m.ns ms9 := by
  have h1 := h.kind; have h2 := h.frm; have h3 := h.to; have h4 := h.slot; have h5 := h.bround; have h6 := h.bsite; have h7 := h.hround; have h8 := h.hsite; have h9 := m.is_le
  unfold Ms.ns ms9
  refine ⟨?_, ?_, ?_, ?_, ?_, ?_, ?_, ?_, ?_, trivial⟩ <;> omega
theorem Ms.May.U {m : Ms} (h : m.May) : ∀ n ∈ m.ns, U64 n := by
  have h1 := h.kind; have h2 := h.frm; have h3 := h.to; have h4 := h.slot; have h5 := h.bround; have h6 := h.bsite; have h7 := h.hround; have h8 := h.hsite; have h9 := m.is_le
  intro n hn
  simp only [Ms.ns, List.mem_cons, List.not_mem_nil, or_false] at hn
  unfold U64
  rcases hn with rfl | rfl | rfl | rfl | rfl | rfl | rfl | rfl | rfl <;> omega
theorem Ms.May.ilen {m : Ms} (h : m.May) : m.inside.length ≤ 2200 := by
  have := bodyB_len h.U h.val
  have := h.val
  have : m.ns.length = 9 := rfl
  unfold Ms.inside
  omega
theorem Ms.May.len {m : Ms} (h : m.May) : m.bytes.length ≤ 2208 := by
  have := h.ilen
  unfold Ms.bytes
  rw [put_len]; omega
/-- m is the message of what is in a frame. -/
def DecI (b : List UInt8) (m : Ms) : Prop := m.May ∧ m.inside = b
theorem DecI.inj {b : List UInt8} {m m' : Ms} (h : DecI b m) (h' : DecI b m') : m = m' := by
  obtain ⟨e1, e2⟩ := bodyB_inj ms9_le h.1.fits h'.1.fits h.1.val h'.1.val (h.2.trans h'.2.symm)
  have h1 := h.1.kind; have h2 := h.1.frm; have h3 := h.1.to; have h4 := h.1.slot; have h5 := h.1.bround; have h6 := h.1.bsite; have h7 := h.1.hround; have h8 := h.1.hsite
  have k1 := h'.1.kind; have k2 := h'.1.frm; have k3 := h'.1.to; have k4 := h'.1.slot; have k5 := h'.1.bround; have k6 := h'.1.bsite; have k7 := h'.1.hround; have k8 := h'.1.hsite
  obtain ⟨a, b, c, d, e, f, g, i, s, v⟩ := m
  obtain ⟨a', b', c', d', e', f', g', i', s', v'⟩ := m'
  simp only [Ms.ns, Ms.is, List.cons.injEq, and_true] at e1 e2 h1 h2 h3 h4 h5 h6 h7 h8 k1 k2 k3 k4 k5 k6 k7 k8
  obtain ⟨q1, q2, q3, q4, q5, q6, q7, q8, q9⟩ := e1
  subst e2
  obtain rfl : a = a' := by omega
  obtain rfl : b = b' := by omega
  obtain rfl : c = c' := by omega
  obtain rfl : d = d' := by omega
  obtain rfl : e = e' := by omega
  obtain rfl : f = f' := by omega
  obtain rfl : g = g' := by omega
  obtain rfl : i = i' := by omega
  obtain rfl : s = s' := by cases s <;> cases s' <;> simp at q9 <;> rfl
  rfl
def Ms.of (n1 n2 n3 n4 n5 n6 n7 n8 n9 : Nat) (v : List UInt8) : Ms := ⟨n1, n2, n3, n4, n5, n6, n7, n8, decide (n9 = 1), v⟩
theorem deci_body {b : List UInt8} {n1 n2 n3 n4 n5 n6 n7 n8 n9 : Nat} {v : List UInt8} (h : body b ms9 = some ([n1, n2, n3, n4, n5, n6, n7, n8, n9], v)) :
    (n9 ≤ 1 → (Ms.of n1 n2 n3 n4 n5 n6 n7 n8 n9 v).inside = b) ∧ ∀ m, DecI b m → n9 ≤ 1 ∧ m = Ms.of n1 n2 n3 n4 n5 n6 n7 n8 n9 v := by
  obtain ⟨h1, h2, h3⟩ := body_ok h
  refine ⟨fun h9 => ?_, fun m hm => ?_⟩
  · have e9 : (Ms.of n1 n2 n3 n4 n5 n6 n7 n8 n9 v).is = n9 := by
      have : n9 = 0 ∨ n9 = 1 := by omega
      rcases this with rfl | rfl <;> rfl
    rw [h3]
    have : (Ms.of n1 n2 n3 n4 n5 n6 n7 n8 n9 v).ns = [n1, n2, n3, n4, n5, n6, n7, n8, n9] := by
      unfold Ms.ns; rw [e9]; rfl
    unfold Ms.inside; rw [this]; rfl
  · obtain ⟨e1, e2⟩ := bodyB_inj ms9_le hm.1.fits h1 hm.1.val h2 (hm.2.trans h3)
    have h1 := hm.1.kind; have h2 := hm.1.frm; have h3 := hm.1.to; have h4 := hm.1.slot; have h5 := hm.1.bround; have h6 := hm.1.bsite; have h7 := hm.1.hround; have h8 := hm.1.hsite
    have h9 := m.is_le
    obtain ⟨a, b, c, d, e, f, g, i, s, v'⟩ := m
    simp only [Ms.ns, List.cons.injEq, and_true] at e1 e2 h1 h2 h3 h4 h5 h6 h7 h8
    obtain ⟨q1, q2, q3, q4, q5, q6, q7, q8, q9⟩ := e1
    subst e2
    refine ⟨by omega, ?_⟩
    unfold Ms.of
    congr 1
    any_goals omega
    rw [← q9]; unfold Ms.is; cases s <;> simp
theorem deci_none {b : List UInt8} (h : body b ms9 = none) : ∀ m, ¬ DecI b m := fun m hm => body_none ms9_le h hm.1.fits hm.1.val hm.2.symm
open Classical in
noncomputable def decI (b : List UInt8) : Option Ms := if h : ∃ m, DecI b m then some h.choose else none
theorem decI_some {b : List UInt8} {m : Ms} (h : DecI b m) : decI b = some m := by
  have hx : ∃ m, DecI b m := ⟨m, h⟩
  unfold decI
  rw [dif_pos hx, hx.choose_spec.inj h]
theorem decI_none {b : List UInt8} (h : ∀ m, ¬ DecI b m) : decI b = none := by
  unfold decI
  rw [dif_neg (fun ⟨m, hm⟩ => h m hm)]
theorem decI_ok {b : List UInt8} {m : Ms} (h : decI b = some m) : DecI b m := by
  unfold decI at h
  split at h
  · rename_i hx
    rw [← Option.some.inj h]; exact hx.choose_spec
  · cases h

/-- Is b one frame, with nothing behind? -/
def Whole (b : List UInt8) : Prop := fst b = (b.length - 8, 0) ∧ 8 ≤ b.length
theorem whole_put {b : List UInt8} (h : b.length ≤ 4096) : Whole (put b) := by
  have := fst_put h []
  rw [List.append_nil] at this
  refine ⟨by rw [this, put_len]; simp, by rw [put_len]; omega⟩
theorem Whole.put {b : List UInt8} (h : Whole b) : b = put (b.drop 8) := by
  have := (fst_ok h.1).2.2
  rw [List.take_of_length_le (l := b.drop 8) (by simp), List.drop_of_length_le (l := b) (i := 8 + (b.length - 8)) (by have := h.2; omega), List.append_nil] at this
  exact this
theorem not_whole {b : List UInt8} {n : Nat} (h : fst b = (n, 0)) (hr : b.drop (8 + n) ≠ []) : ¬ Whole b := fun hw => by
  rw [hw.1] at h
  simp only [Prod.mk.injEq, and_true] at h
  subst h
  exact hr (List.drop_of_length_le (by have := hw.2; omega))
theorem not_whole' {b : List UInt8} (h : (fst b).2 ≠ 0) : ¬ Whole b := fun hw => by rw [hw.1] at h; exact h rfl
theorem put_inj {b b' : List UInt8} (h : put b = put b') : b = b' := by
  have := congrArg (List.drop 8) h
  simpa [put, four] using this
/-- A frame of which one byte was turned is none with nothing behind. -/
theorem turned {b : List UInt8} (hb : b.length ≤ 4096) {i : Nat} (hi : i < (put b).length) {c : UInt8} (hc : c ≠ (put b)[i]) : ¬ Whole ((put b).set i c) := by
  intro hw
  have hp := hw.put
  have hl : ((put b).set i c).length = 8 + b.length := by simp
  obtain ⟨b', hb'⟩ : ∃ b', ((put b).set i c).drop 8 = b' := ⟨_, rfl⟩
  have hl' : b'.length = b.length := by rw [← hb', List.length_drop, hl]; omega
  rw [hb'] at hp
  have hget : ∀ j, (put b')[j]? = if j = i then some c else (put b)[j]? := by
    intro j
    rw [← hp, List.getElem?_set]
    by_cases h : i = j
    · subst h; rw [if_pos rfl, if_pos hi, if_pos rfl]
    · rw [if_neg h, if_neg (fun e => h e.symm)]
  have hci : (put b)[i]? = some (put b)[i] := List.getElem?_eq_getElem hi
  have hne : (put b')[i]? ≠ (put b)[i]? := by rw [hget i, if_pos rfl, hci]; intro h; exact hc (Option.some.inj h)
  have hU : U32 b.length := by unfold U32; omega
  have hsame4 : ∀ j, j < 4 → (put b')[j]? = (put b)[j]? := by
    intro j hj
    unfold put
    rw [hl', List.append_assoc, List.append_assoc, List.getElem?_append_left (by simp; omega), List.getElem?_append_left (by simp; omega)]
  have h4 : 4 ≤ i := by
    rcases Nat.lt_or_ge i 4 with h | h
    · exact absurd (hsame4 i h) hne
    · exact h
  have hbody : ∀ (x : List UInt8) j, (put x)[8 + j]? = x[j]? := by
    intro x j
    have : x = (put x).drop 8 := by simp [put, four]
    conv => rhs; rw [this, List.getElem?_drop]
  by_cases h8 : i < 8
  · have : b' = b := by
      apply List.ext_getElem?
      intro j
      rw [← hbody b' j, ← hbody b j, hget, if_neg (by omega)]
    rw [this] at hne
    exact hne rfl
  · obtain ⟨k, rfl⟩ : ∃ k, i = 8 + k := ⟨i - 8, by omega⟩
    have hk : k < b.length := by rw [put_len] at hi; omega
    have hbs : b' = b.set k c := by
      apply List.ext_getElem?
      intro j
      rw [← hbody b' j, hget, List.getElem?_set, ← hbody b j]
      by_cases h : k = j
      · subst h; rw [if_pos rfl, if_pos rfl, if_pos hk]
      · rw [if_neg (by omega), if_neg h]
    have hsum : four (fsum (four b.length) b') = four (fsum (four b.length) b) := by
      have e : ∀ (x : List UInt8), x.length = b.length → ((put x).drop 4).take 4 = four (fsum (four b.length) x) := by
        intro x hx
        unfold put
        rw [hx, List.append_assoc, List.drop_left' (by simp), List.take_left' (by simp)]
      rw [← e b' hl', ← e b rfl]
      apply List.ext_getElem?
      intro j
      rw [List.getElem?_take, List.getElem?_take]
      split
      · rw [List.getElem?_drop, List.getElem?_drop, hget, if_neg (by omega)]
      · rfl
    have hsum' := congrArg num4 hsum
    rw [num4_four' (fsum_U32 _ _), num4_four' (fsum_U32 _ _), hbs] at hsum'
    have hsp : b = b.take k ++ b[k] :: b.drop (k + 1) := by rw [← List.drop_eq_getElem_cons hk, List.take_append_drop]
    have hsp' : b.set k c = b.take k ++ c :: b.drop (k + 1) := by rw [List.set_eq_take_append_cons_drop, if_pos hk]
    have hck : c ≠ b[k] := by
      intro e
      apply hc
      have := hbody b k
      rw [hci, List.getElem?_eq_getElem hk] at this
      rw [e, Option.some.inj this]
    rw [hsp'] at hsum'
    generalize four b.length = z at hsum'
    conv at hsum' => rhs; rw [hsp]
    exact more_turned (more_U32 U32.zero _) _ _ hck hsum'
end Agio
