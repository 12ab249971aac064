/- What is laid down is read as it was; what is read stood there as it is laid down: plain mathematics. -/
import Derived.Test.YtdmmpcdilkcfjaaPlainRead
namespace Agio
open Go

theorem uvA_once (l : List UInt8) : ∀ (i acc n k : Nat), uvA i acc l = (n, k, 0) → ∃ m, n = acc + m * 128 ^ i ∧ i < k ∧ l.take (k - i) = leb m ∧ (0 < i → 0 < m) := by
  induction l with
  | nil => intro i acc n k h; simp [uvA] at h
  | cons c r ih =>
    intro i acc n k h
    have hc := c.toNat_lt
    by_cases h9 : i = 9 ∧ 1 < c.toNat
    · rw [uvA_nine h9.1 h9.2] at h; simp at h
    · by_cases h1 : 128 ≤ c.toNat
      · rw [uvA_more h9 h1] at h
        obtain ⟨m, hn, hk, ht, hm⟩ := ih _ _ _ _ h
        have hm := hm (by omega)
        refine ⟨c.toNat % 128 + 128 * m, ?_, by omega, ?_, by omega⟩
        · rw [hn, Nat.pow_succ, Nat.add_mul]
          have : 128 * m * 128 ^ i = m * (128 ^ i * 128) := by rw [Nat.mul_comm 128 m, Nat.mul_assoc, Nat.mul_comm 128]
          omega
        · rw [leb_ge (by omega), show k - i = (k - (i + 1)) + 1 by omega, List.take_succ_cons, ht]
          congr 1
          · rw [show (c.toNat % 128 + 128 * m) % 128 + 128 = c.toNat by omega]
            exact (UInt8.ofNat_toNat).symm
          · congr 1; omega
      · by_cases h0 : c.toNat = 0 ∧ 0 < i
        · rw [uvA_zero h0.1 h0.2] at h; simp at h
        · rw [uvA_last h9 (by omega) h0] at h
          simp only [Prod.mk.injEq] at h
          obtain ⟨rfl, rfl, -⟩ := h
          refine ⟨c.toNat, by rw [Nat.mod_eq_of_lt (by omega)], by omega, ?_, by omega⟩
          rw [leb_lt (by omega), show i + 1 - i = 1 by omega]
          simp
theorem uv_once {l : List UInt8} {n k : Nat} (h : uv l = (n, k, 0)) : l.take k = leb n := by
  obtain ⟨m, hn, _, ht, _⟩ := uvA_once l 0 0 n k h
  simp at hn ht
  rw [hn, ht]

theorem uvA_back : ∀ (m i acc : Nat) (r : List UInt8), i ≤ 9 → acc + m * 128 ^ i < 18446744073709551616 → (0 < i → 0 < m) → uvA i acc (leb m ++ r) = (acc + m * 128 ^ i, i + (leb m).length, 0) := by
  intro m
  induction m using Nat.strongRecOn with
  | _ m ih =>
    intro i acc r hi hb h0
    have hp : 128 ^ i ≤ 128 ^ 9 := Nat.pow_le_pow_right (by omega) hi
    by_cases h : m < 128
    · rw [leb_lt h]
      have ht : (UInt8.ofNat m).toNat = m := by simp; omega
      simp only [List.singleton_append, List.length_singleton]
      rw [uvA_last (by
        rw [ht]; rintro ⟨rfl, h1⟩
        have : 2 * 128 ^ 9 ≤ m * 128 ^ 9 := Nat.mul_le_mul_right _ (by omega)
        omega) (by omega) (by omega), ht, Nat.mod_eq_of_lt h]
    · rw [leb_ge (by omega)]
      have ht : (UInt8.ofNat (m % 128 + 128)).toNat = m % 128 + 128 := by simp; omega
      have hm : m * 128 ^ i = m % 128 * 128 ^ i + m / 128 * 128 ^ (i + 1) := by
        rw [Nat.pow_succ, ← Nat.mul_assoc, Nat.mul_right_comm, ← Nat.add_mul]
        congr 1; omega
      have hi9 : ¬ i = 9 := by
        rintro rfl
        have : 128 * 128 ^ 9 ≤ m * 128 ^ 9 := Nat.mul_le_mul_right _ (by omega)
        omega
      rw [List.cons_append, uvA_more (by omega) (by omega), ht, show (m % 128 + 128) % 128 = m % 128 by omega, ih (m / 128) (by omega) (i + 1) _ r (by omega) (by omega) (by omega)]
      simp only [List.length_cons, Prod.mk.injEq, and_true]
      omega
theorem uv_back {n : Nat} (h : U64 n) (r : List UInt8) : uv (leb n ++ r) = (n, (leb n).length, 0) := by
  have := uvA_back n 0 0 r (by omega) (by unfold U64 at h; omega) (by omega)
  simpa [uv] using this

end Agio
