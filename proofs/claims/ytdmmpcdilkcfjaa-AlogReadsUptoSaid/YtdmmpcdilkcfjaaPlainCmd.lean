/- A command's bytes, read: plain mathematics. -/
import Derived.Test.YtdmmpcdilkcfjaaPlainBack
namespace Agio
open Go

/-- The bytes of numbers with a sign. -/
def zigs (l : List Int) : List UInt8 := l.flatMap fun n => leb (zig n)
theorem zigs_cons (n : Int) (l : List Int) : zigs (n :: l) = leb (zig n) ++ zigs l := rfl
theorem zigs_take {l : List Int} {j : Nat} (h : j < l.length) : zigs (l.take (j + 1)) = zigs (l.take j) ++ leb (zig l[j]) := by
  unfold zigs; rw [List.take_succ_eq_append_getElem h, List.flatMap_append]; simp
theorem zigs_len {l : List Int} (h : ∀ n ∈ l, I64 n) : (zigs l).length ≤ 10 * l.length := by
  induction l with
  | nil => simp [zigs]
  | cons n l ih =>
    have h1 := leb_len (zig_U64 (h n (by simp)))
    have h2 := ih fun m hm => h m (by simp [hm])
    simp only [zigs, List.flatMap_cons, List.length_append, List.length_cons] at h2 ⊢
    omega
/-- n numbers with a sign, from a place on: an error and its place, or the numbers and where they end. -/
def ints (b : List UInt8) : Nat → Nat → (Nat × Nat) ⊕ (List Int × Nat)
  | 0, a => .inr ([], a)
  | n + 1, a => if (uv (b.drop a)).2.2 = 0 then
      (match ints b n (a + (uv (b.drop a)).2.1) with | .inl e => .inl e | .inr r => .inr (zag (uv (b.drop a)).1 :: r.1, r.2))
    else .inl ((uv (b.drop a)).2.2, a)
/-- A command's numbers. -/
def cmdRead (b : List UInt8) : (Nat × Nat) ⊕ (Nat × Nat × List Int) :=
  if (upt 1000 b).2.2 = 0 then
    (if (upt 1000 (b.drop (upt 1000 b).2.1)).2.2 = 0 then
      (match ints b 7 ((upt 1000 b).2.1 + (upt 1000 (b.drop (upt 1000 b).2.1)).2.1) with
      | .inl e => .inl e
      | .inr r => if r.2 < b.length then .inl (2, r.2) else .inr ((upt 1000 b).1, (upt 1000 (b.drop (upt 1000 b).2.1)).1, r.1))
    else .inl ((upt 1000 (b.drop (upt 1000 b).2.1)).2.2, (upt 1000 b).2.1))
  else .inl ((upt 1000 b).2.2, 0)

theorem drop_take_app {b : List UInt8} {a k : Nat} (_h : k ≤ (b.drop a).length) : b.drop a = (b.drop a).take k ++ b.drop (a + k) := by
  rw [← List.drop_drop, List.take_append_drop]
theorem ints_ok (b : List UInt8) : ∀ (n a : Nat) (l : List Int) (e : Nat), ints b n a = .inr (l, e) → b.drop a = zigs l ++ b.drop e ∧ l.length = n ∧ (∀ m ∈ l, I64 m) ∧ a ≤ e ∧ (a ≤ b.length → e ≤ b.length) := by
  intro n
  induction n with
  | zero => intro a l e h; simp [ints] at h; obtain ⟨rfl, rfl⟩ := h; simp [zigs]
  | succ n ih =>
    intro a l e h
    simp only [ints] at h
    by_cases h0 : (uv (b.drop a)).2.2 = 0
    · rw [if_pos h0] at h
      obtain ⟨x, k, bad, hu⟩ : ∃ x k bad, uv (b.drop a) = (x, k, bad) := ⟨_, _, _, rfl⟩
      have hok := uv_ok h0
      rw [hu] at h h0 hok
      simp only at h h0 hok
      subst h0
      cases hi : ints b n (a + k) with
      | inl e' => rw [hi] at h; simp at h
      | inr r =>
        rw [hi] at h
        simp only [Sum.inr.injEq, Prod.mk.injEq] at h
        obtain ⟨rfl, rfl⟩ := h
        obtain ⟨h1, h2, h3, h4, h5⟩ := ih _ _ _ hi
        have h6 := hok.2.1
        rw [List.length_drop] at h6
        refine ⟨?_, by simp [h2], ?_, by omega, fun _ => h5 (by omega)⟩
        · rw [drop_take_app (k := k) hok.2.1, uv_once hu, h1, zigs_cons, zig_zag, List.append_assoc]
        · intro m hm
          rcases List.mem_cons.1 hm with rfl | hm
          · exact zag_I64 hok.2.2.2
          · exact h3 m hm
    · rw [if_neg h0] at h; simp at h
theorem ints_back (l : List Int) : ∀ (b : List UInt8) (a : Nat) (r : List UInt8), (∀ m ∈ l, I64 m) → b.drop a = zigs l ++ r → ints b l.length a = .inr (l, a + (zigs l).length) := by
  induction l with
  | nil => intro b a r _ _; simp [ints, zigs]
  | cons n l ih =>
    intro b a r h hb
    have hb' : b.drop a = leb (zig n) ++ (zigs l ++ r) := by rw [hb, zigs_cons, List.append_assoc]
    have hu := uv_back (zig_U64 (h n (by simp))) (zigs l ++ r)
    simp only [List.length_cons, ints]
    rw [hb', hu, if_pos rfl]
    have hd : b.drop (a + (leb (zig n)).length) = zigs l ++ r := by rw [← List.drop_drop, hb', List.drop_left]
    rw [ih b (a + (leb (zig n)).length) r (fun m hm => h m (by simp [hm])) hd, zag_zig, zigs_cons, List.length_append, Nat.add_assoc]

theorem upt_once {most : Int} {l : List UInt8} {n k : Nat} (h : upt most l = (n, k, 0)) : l.take k = leb n ∧ (n : Int) ≤ most ∧ k ≤ l.length := by
  obtain ⟨h1, h2, _, h4⟩ := upt_ok (most := most) (l := l) (by rw [h])
  rw [← h2, h] at h4
  have hu : uv l = (n, k, 0) := by rw [← h2]; exact h
  have := (uv_ok h1).2.1
  rw [hu] at this
  exact ⟨uv_once hu, h4, this⟩
theorem upt_back {most : Int} {n : Nat} (r : List UInt8) (h : (n : Int) ≤ most) (hm : most ≤ 9223372036854775807) : upt most (leb n ++ r) = (n, (leb n).length, 0) := by
  have hu := uv_back (n := n) (by unfold U64; omega) r
  unfold upt
  rw [hu, if_pos rfl, if_neg (by simp only; omega)]
theorem cmdRead_ok {b : List UInt8} {k cl : Nat} {l : List Int} (h : cmdRead b = .inr (k, cl, l)) : b = leb k ++ leb cl ++ zigs l ∧ l.length = 7 ∧ k ≤ 1000 ∧ cl ≤ 1000 ∧ ∀ m ∈ l, I64 m := by
  unfold cmdRead at h
  by_cases h0 : (upt 1000 b).2.2 = 0
  · rw [if_pos h0] at h
    obtain ⟨k0, n0, bad0, hu0⟩ : ∃ x k bad, upt 1000 b = (x, k, bad) := ⟨_, _, _, rfl⟩
    rw [hu0] at h h0
    simp only at h h0
    subst h0
    by_cases h1 : (upt 1000 (b.drop n0)).2.2 = 0
    · rw [if_pos h1] at h
      obtain ⟨k1, n1, bad1, hu1⟩ : ∃ x k bad, upt 1000 (b.drop n0) = (x, k, bad) := ⟨_, _, _, rfl⟩
      rw [hu1] at h h1
      simp only at h h1
      subst h1
      cases hi : ints b 7 (n0 + n1) with
      | inl e => rw [hi] at h; simp at h
      | inr r =>
        rw [hi] at h
        simp only at h
        by_cases he : r.2 < b.length
        · rw [if_pos he] at h; simp at h
        · rw [if_neg he] at h
          simp only [Sum.inr.injEq, Prod.mk.injEq] at h
          obtain ⟨rfl, rfl, rfl⟩ := h
          obtain ⟨a1, a2, a3, a4, a5⟩ := ints_ok b 7 _ _ _ hi
          obtain ⟨t0, m0, l0⟩ := upt_once hu0
          obtain ⟨t1, m1, l1⟩ := upt_once hu1
          refine ⟨?_, a2, by omega, by omega, a3⟩
          have e0 : b = b.take n0 ++ b.drop n0 := (List.take_append_drop n0 b).symm
          rw [t0, drop_take_app (k := n1) l1, t1, a1, List.drop_of_length_le (by omega : b.length ≤ r.2)] at e0
          simpa using e0
    · rw [if_neg h1] at h; simp at h
  · rw [if_neg h0] at h; simp at h
theorem cmdRead_back {k cl : Nat} {l : List Int} (r : List UInt8) (hk : k ≤ 1000) (hc : cl ≤ 1000) (hl : l.length = 7) (hI : ∀ m ∈ l, I64 m) :
    cmdRead (leb k ++ leb cl ++ zigs l ++ r) = if r = [] then .inr (k, cl, l) else .inl (2, (leb k ++ leb cl ++ zigs l).length) := by
  have hu0 : upt 1000 (leb k ++ leb cl ++ zigs l ++ r) = (k, (leb k).length, 0) := by
    rw [List.append_assoc, List.append_assoc]; exact upt_back _ (by omega) (by omega)
  have hd0 : (leb k ++ leb cl ++ zigs l ++ r).drop (leb k).length = leb cl ++ (zigs l ++ r) := by rw [List.append_assoc, List.append_assoc, List.drop_left]
  have hu1 : upt 1000 (leb cl ++ (zigs l ++ r)) = (cl, (leb cl).length, 0) := upt_back _ (by omega) (by omega)
  have hd1 : (leb k ++ leb cl ++ zigs l ++ r).drop ((leb k).length + (leb cl).length) = zigs l ++ r := by rw [← List.drop_drop, hd0, List.drop_left]
  have hi := ints_back l _ _ r hI hd1
  rw [hl] at hi
  unfold cmdRead
  rw [hu0]
  simp only [hd0, hu1, if_true, hi]
  by_cases h : r = []
  · subst h; rw [if_pos rfl, if_neg (by simp only [List.length_append, List.length_nil]; omega)]
  · have := List.length_pos_iff.2 h
    rw [if_neg h, if_pos (by simp only [List.length_append]; omega)]
    simp [Nat.add_assoc]
end Agio
