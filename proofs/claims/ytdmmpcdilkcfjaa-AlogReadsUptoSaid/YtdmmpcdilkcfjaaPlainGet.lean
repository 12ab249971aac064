/- Reading a number by counting its bytes first, as the document's answer does it: plain mathematics. -/
import Derived.Test.YtdmmpcdilkcfjaaPlainRead
namespace Agio
open Go

/-- Sevens of bits, the lowest first. -/
def low7 : List UInt8 → Nat
  | [] => 0
  | c :: r => c.toNat % 128 + 128 * low7 r
theorem low7_append (a b : List UInt8) : low7 (a ++ b) = low7 a + 128 ^ a.length * low7 b := by
  induction a with
  | nil => simp [low7]
  | cons c a ih =>
    simp only [List.cons_append, low7, ih, List.length_cons, Nat.pow_succ]
    rw [Nat.mul_add, Nat.mul_comm (128 ^ a.length) 128, Nat.mul_assoc]; omega
theorem low7_lt (a : List UInt8) : low7 a < 128 ^ a.length := by
  induction a with
  | nil => simp [low7]
  | cons c a ih => simp only [low7, List.length_cons, Nat.pow_succ]; omega
theorem uvA_run (hi : List UInt8) : ∀ (i acc : Nat) (l : List UInt8), (∀ c ∈ hi, 128 ≤ c.toNat) → i + hi.length ≤ 9 → uvA i acc (hi ++ l) = uvA (i + hi.length) (acc + low7 hi * 128 ^ i) l := by
  induction hi with
  | nil => intro i acc l _ _; simp [low7]
  | cons c hi ih =>
    intro i acc l h hl
    simp only [List.length_cons] at hl
    rw [List.cons_append, uvA_more (by omega) (h c (by simp)), ih _ _ _ (fun d hd => h d (by simp [hd])) (by omega)]
    simp only [List.length_cons, low7]
    rw [show i + 1 + hi.length = i + (hi.length + 1) by omega, Nat.add_mul, Nat.pow_succ, Nat.add_assoc]
    congr 3
    rw [Nat.mul_comm (128 ^ i) 128, ← Nat.mul_assoc, Nat.mul_comm (low7 hi) 128]
/-- k bytes at the beginning of l are above 127. -/
def Hi (l : List UInt8) (k : Nat) : Prop := k ≤ l.length ∧ ∀ j (h : j < l.length), j < k → 128 ≤ l[j].toNat
theorem Hi.zero (l : List UInt8) : Hi l 0 := ⟨by omega, fun _ _ h => absurd h (by omega)⟩
theorem Hi.succ {l : List UInt8} {k : Nat} (h : Hi l k) (hk : k < l.length) (hc : 128 ≤ l[k].toNat) : Hi l (k + 1) :=
  ⟨hk, fun j hj hlt => by
    rcases Nat.lt_or_ge j k with h1 | h1
    · exact h.2 j hj h1
    · obtain rfl : j = k := by omega
      exact hc⟩
theorem Hi.take {l : List UInt8} {k : Nat} (h : Hi l k) : ∀ c ∈ l.take k, 128 ≤ c.toNat := by
  intro c hc
  obtain ⟨j, hj, rfl⟩ := List.getElem_of_mem hc
  simp at hj
  rw [List.getElem_take]
  exact h.2 j (by omega) (by omega)
theorem uv_split {l : List UInt8} {k : Nat} (h : Hi l k) (hk : k ≤ 9) : uv l = uvA k (low7 (l.take k)) (l.drop k) := by
  have hl : (l.take k).length = k := by rw [List.length_take]; have := h.1; omega
  have := uvA_run (l.take k) 0 0 (l.drop k) h.take (by omega)
  rw [List.take_append_drop, hl] at this
  simpa [uv] using this
theorem get_ten {l : List UInt8} (h : Hi l 10) : uv l = (0, 0, 2) := by
  have h9 : Hi l 9 := ⟨by have := h.1; omega, fun j hj hlt => h.2 j hj (by omega)⟩
  have hl : 9 < l.length := by have := h.1; omega
  rw [uv_split h9 (by omega), List.drop_eq_getElem_cons hl, uvA_nine rfl (by have := h.2 9 hl (by omega); omega)]
theorem get_nine {l : List UInt8} (h : Hi l 9) (hl : 9 < l.length) (hc : 1 < l[9].toNat) : uv l = (0, 0, 2) := by
  rw [uv_split h (by omega), List.drop_eq_getElem_cons hl, uvA_nine rfl hc]
theorem get_short {l : List UInt8} {k : Nat} (h : Hi l k) (hk : k ≤ 9) (hl : l.length ≤ k) : uv l = (0, 0, 3) := by
  rw [uv_split h hk, List.drop_of_length_le hl]; rfl
theorem get_zero {l : List UInt8} {k : Nat} (h : Hi l k) (hk : k ≤ 9) (hl : k < l.length) (h0 : 0 < k) (hc : l[k].toNat = 0) : uv l = (0, 0, 2) := by
  rw [uv_split h hk, List.drop_eq_getElem_cons hl, uvA_zero hc h0]
theorem get_some {l : List UInt8} {k : Nat} (h : Hi l k) (hk : k ≤ 9) (hl : k < l.length) (hc : l[k].toNat < 128) (h9 : ¬ (k = 9 ∧ 1 < l[k].toNat)) (h0 : ¬ (l[k].toNat = 0 ∧ 0 < k)) : uv l = (low7 (l.take (k + 1)), k + 1, 0) := by
  have hlen : (l.take k).length = k := by rw [List.length_take]; omega
  rw [uv_split h hk, List.drop_eq_getElem_cons hl, uvA_last h9 hc h0, List.take_succ_eq_append_getElem hl, low7_append, hlen]
  simp only [low7, Nat.mul_zero, Nat.add_zero]
  rw [Nat.mul_comm (128 ^ k)]
/-- From the top: what the bytes behind i are, and one more. -/
def high7 (l : List UInt8) (k i : Nat) : Nat := low7 ((l.take (k + 1)).drop i)
theorem high7_top (l : List UInt8) (k : Nat) : high7 l k (k + 1) = 0 := by unfold high7; rw [List.drop_of_length_le (by simp; omega)]; rfl
theorem high7_all (l : List UInt8) (k : Nat) : high7 l k 0 = low7 (l.take (k + 1)) := rfl
theorem high7_step {l : List UInt8} {k i : Nat} (hl : i < l.length) (hi : i ≤ k) : high7 l k i = high7 l k (i + 1) * 128 + l[i].toNat % 128 := by
  unfold high7
  rw [List.drop_eq_getElem_cons (by simp; omega)]
  simp only [low7, List.getElem_take]
  omega
theorem high7_le (l : List UInt8) (k : Nat) : ∀ i, high7 l k i ≤ low7 (l.take (k + 1)) := by
  intro i
  unfold high7
  conv => rhs; rw [← List.take_append_drop i (l.take (k + 1))]
  rw [low7_append]
  have := Nat.le_mul_of_pos_left (low7 (List.drop i (List.take (k + 1) l))) (Nat.pow_pos (n := (List.take i (List.take (k + 1) l)).length) (show 0 < 128 by omega))
  omega
end Agio
