/- Reading a number's bytes: plain mathematics, no program in sight. -/
import Derived.Test.YtdmmpcdilkcfjaaPlainWire
import Derived.Laws.BitsAllLaws
namespace Agio
open Go

/-- A number is read of bytes, of which i were read (acc): the number, how many bytes it has, an error's number. -/
def uvA (i acc : Nat) : List UInt8 → Nat × Nat × Nat
  | [] => (0, 0, 3)
  | c :: r =>
    if i = 9 ∧ 1 < c.toNat then (0, 0, 2)
    else if 128 ≤ c.toNat then uvA (i + 1) (acc + c.toNat % 128 * 128 ^ i) r
    else if c.toNat = 0 ∧ 0 < i then (0, 0, 2)
    else (acc + c.toNat * 128 ^ i, i + 1, 0)
def uv (l : List UInt8) : Nat × Nat × Nat := uvA 0 0 l

theorem two_pow_seven (i : Nat) : (2 : Int) ^ (7 * i) = ((128 ^ i : Nat) : Int) := by
  rw [Int.pow_mul]; simp
/-- What a byte adds to the number: its seven bits, above those that were read. -/
theorem acc_byte {i acc cn : Nat} (hi : i ≤ 9) (hacc : acc < 128 ^ i) (hcn : cn < 256) (h9 : i = 9 → cn ≤ 1) :
    bits .or .u64 (acc : Int) (IntKind.u64.wrap (IntKind.u64.wrap (bits .and .u8 (cn : Int) 127) * 2 ^ (7 * i))) = ((acc + cn % 128 * 128 ^ i : Nat) : Int) := by
  have h1 : bits .and .u8 (cn : Int) 127 = ((cn % 128 : Nat) : Int) := by
    have := u8_and_nat cn 127 hcn (by omega)
    rw [nat_mask7] at this; exact this
  have hp : 128 ^ i ≤ 128 ^ 9 := Nat.pow_le_pow_right (by omega) hi
  have hx : cn % 128 * 128 ^ i < 18446744073709551616 := by
    by_cases h : i = 9
    · subst h; have := h9 rfl; have : cn % 128 ≤ 1 := by omega
      have := Nat.mul_le_mul_right (128 ^ 9) this
      omega
    · have : 128 ^ i ≤ 128 ^ 8 := Nat.pow_le_pow_right (by omega) (by omega)
      have : cn % 128 * 128 ^ i ≤ 127 * 128 ^ 8 := Nat.mul_le_mul (by omega) this
      omega
  rw [h1, two_pow_seven, u64_wrap (m := ((cn % 128 : Nat) : Int)) (by omega) (by unfold U64; omega)]
  rw [show ((cn % 128 : Nat) : Int) * ((128 ^ i : Nat) : Int) = ((cn % 128 * 128 ^ i : Nat) : Int) by rw [Int.natCast_mul]]
  rw [u64_wrap (by omega) (by unfold U64; omega), u64_or_nat acc _ (by omega) hx]
  congr 1
  rw [Nat.or_comm, nat_join (7 * i) _ acc (by rw [Nat.pow_mul]; simp) (by rw [Nat.pow_mul]; simpa using hacc)]
  omega
theorem acc_lt {i acc cn : Nat} (hacc : acc < 128 ^ i) : acc + cn % 128 * 128 ^ i < 128 ^ (i + 1) := by
  have : cn % 128 * 128 ^ i ≤ 127 * 128 ^ i := Nat.mul_le_mul_right _ (by omega)
  rw [Nat.pow_succ]; omega

theorem uvA_more {i acc : Nat} {c : UInt8} {r : List UInt8} (h9 : ¬ (i = 9 ∧ 1 < c.toNat)) (h : 128 ≤ c.toNat) : uvA i acc (c :: r) = uvA (i + 1) (acc + c.toNat % 128 * 128 ^ i) r := by
  rw [uvA, if_neg h9, if_pos h]
theorem uvA_nine {i acc : Nat} {c : UInt8} {r : List UInt8} (hi : i = 9) (h : 1 < c.toNat) : uvA i acc (c :: r) = (0, 0, 2) := by
  rw [uvA, if_pos ⟨hi, h⟩]
theorem uvA_zero {i acc : Nat} {c : UInt8} {r : List UInt8} (h : c.toNat = 0) (hi : 0 < i) : uvA i acc (c :: r) = (0, 0, 2) := by
  rw [uvA, if_neg (by omega), if_neg (by omega), if_pos ⟨h, hi⟩]
theorem uvA_last {i acc : Nat} {c : UInt8} {r : List UInt8} (h9 : ¬ (i = 9 ∧ 1 < c.toNat)) (h : c.toNat < 128) (h0 : ¬ (c.toNat = 0 ∧ 0 < i)) : uvA i acc (c :: r) = (acc + c.toNat % 128 * 128 ^ i, i + 1, 0) := by
  rw [uvA, if_neg h9, if_neg (by omega), if_neg h0, Nat.mod_eq_of_lt h]

theorem uvA_facts (l : List UInt8) : ∀ (i acc : Nat), i ≤ 9 → acc < 128 ^ i →
    ((uvA i acc l).2.2 = 0 → i < (uvA i acc l).2.1 ∧ (uvA i acc l).2.1 ≤ i + l.length ∧ (uvA i acc l).2.1 ≤ 10 ∧ (uvA i acc l).1 < 18446744073709551616) ∧
    ((uvA i acc l).2.2 ≠ 0 → (uvA i acc l).1 = 0 ∧ (uvA i acc l).2.1 = 0 ∧ ((uvA i acc l).2.2 = 2 ∨ (uvA i acc l).2.2 = 3)) := by
  induction l with
  | nil => intro i acc hi h; simp [uvA]
  | cons c r ih =>
    intro i acc hi hacc
    by_cases h9 : i = 9 ∧ 1 < c.toNat
    · rw [uvA_nine h9.1 h9.2]; simp
    · by_cases h : 128 ≤ c.toNat
      · rw [uvA_more h9 h]
        have := ih (i + 1) (acc + c.toNat % 128 * 128 ^ i) (by omega) (acc_lt hacc)
        refine ⟨fun hb => ?_, this.2⟩
        have := this.1 hb
        simp only [List.length_cons]
        omega
      · by_cases h0 : c.toNat = 0 ∧ 0 < i
        · rw [uvA_zero h0.1 h0.2]; simp
        · rw [uvA_last h9 (by omega) h0]
          refine ⟨fun _ => ?_, by simp⟩
          simp only [List.length_cons]
          refine ⟨by omega, by omega, by omega, ?_⟩
          by_cases hi9 : i = 9
          · subst hi9
            have : c.toNat % 128 ≤ 1 := by omega
            have := Nat.mul_le_mul_right (128 ^ 9) this
            omega
          · have := acc_lt (cn := c.toNat) hacc
            have h2 : 128 ^ (i + 1) ≤ 128 ^ 9 := Nat.pow_le_pow_right (by omega) (by omega)
            omega
theorem uv_ok {l : List UInt8} (h : (uv l).2.2 = 0) : 0 < (uv l).2.1 ∧ (uv l).2.1 ≤ l.length ∧ (uv l).2.1 ≤ 10 ∧ U64 (uv l).1 := by
  have := (uvA_facts l 0 0 (by omega) (by omega)).1 h
  unfold uv U64; omega
theorem uv_bad {l : List UInt8} (h : (uv l).2.2 ≠ 0) : (uv l).1 = 0 ∧ (uv l).2.1 = 0 ∧ ((uv l).2.2 = 2 ∨ (uv l).2.2 = 3) := (uvA_facts l 0 0 (by omega) (by omega)).2 h

/-- A number that is not above 'most'. -/
def upt (most : Int) (l : List UInt8) : Nat × Nat × Nat :=
  if (uv l).2.2 = 0 then (if most < 0 ∨ most < ((uv l).1 : Int) then (0, 0, 8) else uv l) else (0, 0, (uv l).2.2)
theorem upt_ok {most : Int} {l : List UInt8} (h : (upt most l).2.2 = 0) : (uv l).2.2 = 0 ∧ upt most l = uv l ∧ 0 ≤ most ∧ ((uv l).1 : Int) ≤ most := by
  unfold upt at *
  by_cases h1 : (uv l).2.2 = 0
  · rw [if_pos h1] at h ⊢
    by_cases h2 : most < 0 ∨ most < ((uv l).1 : Int)
    · rw [if_pos h2] at h; cases h
    · rw [if_neg h2]; exact ⟨h1, rfl, by omega, by omega⟩
  · rw [if_neg h1] at h; exact absurd h h1
theorem upt_bad {most : Int} {l : List UInt8} (h : (upt most l).2.2 ≠ 0) : (upt most l).1 = 0 ∧ (upt most l).2.1 = 0 := by
  unfold upt at *
  by_cases h1 : (uv l).2.2 = 0
  · rw [if_pos h1] at h ⊢
    by_cases h2 : most < 0 ∨ most < ((uv l).1 : Int)
    · rw [if_pos h2]; simp
    · rw [if_neg h2] at h; exact absurd h1 h
  · rw [if_neg h1]; simp

/-- How many bytes there are, most at most, and they. -/
def tk (most : Int) (l : List UInt8) : List UInt8 × Nat × Nat :=
  if (upt most l).2.2 = 0 then
    (if l.length - (upt most l).2.1 < (upt most l).1 then ([], 0, 3) else ((l.drop (upt most l).2.1).take (upt most l).1, (upt most l).2.1 + (upt most l).1, 0))
  else ([], 0, (upt most l).2.2)

theorem tk_bad {most : Int} {l : List UInt8} {n sz bad : Nat} (h : upt most l = (n, sz, bad)) (h0 : bad ≠ 0) : tk most l = ([], 0, bad) := by
  unfold tk; rw [h]; simp [h0]
theorem tk_short {most : Int} {l : List UInt8} {n sz : Nat} (h : upt most l = (n, sz, 0)) (h0 : l.length - sz < n) : tk most l = ([], 0, 3) := by
  unfold tk; rw [h]; simp [h0]
theorem tk_ok {most : Int} {l : List UInt8} {n sz : Nat} (h : upt most l = (n, sz, 0)) (h0 : ¬ l.length - sz < n) : tk most l = ((l.drop sz).take n, sz + n, 0) := by
  unfold tk; rw [h]; simp [h0]

end Agio
