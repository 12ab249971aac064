/- Numbers as bytes, seven bits at a time, the lowest first; numbers with a sign: plain mathematics, no program in sight. -/
import Derived.WalkKit
import Derived.Laws.BitsAllLaws
import Derived.Laws.BitsLemmas
namespace Agio
open Go

/-- A number's bytes. -/
def leb (n : Nat) : List UInt8 := if n < 128 then [UInt8.ofNat n] else UInt8.ofNat (n % 128 + 128) :: leb (n / 128)
termination_by n
decreasing_by omega

theorem leb_lt {n : Nat} (h : n < 128) : leb n = [UInt8.ofNat n] := by rw [leb, if_pos h]
theorem leb_ge {n : Nat} (h : 128 ≤ n) : leb n = UInt8.ofNat (n % 128 + 128) :: leb (n / 128) := by rw [leb, if_neg (by omega)]
theorem leb_len_pow (k : Nat) : ∀ n, n < 128 ^ (k + 1) → (leb n).length ≤ k + 1 := by
  induction k with
  | zero => intro n h; rw [leb_lt (by simpa using h)]; simp
  | succ k ih =>
    intro n h
    by_cases h1 : n < 128
    · rw [leb_lt h1]; simp
    · rw [leb_ge (by omega)]
      have : n / 128 < 128 ^ (k + 1) := by
        rw [Nat.pow_succ] at h
        exact Nat.div_lt_of_lt_mul (by omega)
      have := ih _ this
      simp; omega
theorem leb_pos (n : Nat) : 0 < (leb n).length := by
  by_cases h : n < 128
  · rw [leb_lt h]; simp
  · rw [leb_ge (by omega)]; simp

/-- A number of 64 bits. (A plain def: the walk does not see the numeral.) -/
def U64 (n : Nat) : Prop := n < 18446744073709551616
theorem leb_len {n : Nat} (h : U64 n) : (leb n).length ≤ 10 := leb_len_pow 9 n (by unfold U64 at h; omega)
theorem U64.le {n m : Nat} (h : U64 n) (hm : m ≤ n) : U64 m := Nat.lt_of_le_of_lt hm h
theorem U64.small {n : Nat} (h : n < 9223372036854775808) : U64 n := by unfold U64; omega

theorem u64_wrap {m : Int} (h0 : 0 ≤ m) (h : U64 m.toNat) : IntKind.u64.wrap m = m := by
  rw [IntKind.wrap_u64]; unfold U64 at h; omega
theorem u64_div {m : Int} (h0 : 0 ≤ m) (h : U64 m.toNat) (k : Int) (hk : 0 < k) : IntKind.u64.wrap (m.tdiv k) = m / k := by
  have e : m.tdiv k = m / k := Int.tdiv_eq_ediv_of_nonneg h0
  rw [e, u64_wrap (Int.ediv_nonneg h0 (by omega))]
  refine h.le ?_
  have := Int.ediv_le_self k h0
  omega

theorem u64_low7 {m : Int} (h0 : 0 ≤ m) (h : U64 m.toNat) : bits .and .u64 m 127 = m % 128 := by
  unfold U64 at h
  rw [u64_and m 127 h0 (by omega) (by omega) (by omega)]
  rw [show (127 : Int).toNat = 127 from rfl, nat_mask7]; omega
theorem u8_hi {x : Int} (h0 : 0 ≤ x) (h : x < 128) : bits .or .u8 x 128 = x + 128 := by
  rw [u8_or x 128 h0 (by omega) (by omega) (by omega), show (128 : Int).toNat = 128 from rfl, Nat.or_comm, nat_join 7 128 x.toNat (by decide) (by omega)]
  omega
/-- The byte that is laid down of a number above 127. -/
theorem leb_byte {m : Int} (h0 : 0 ≤ m) (h : U64 m.toNat) : bits .or .u8 (bits .and .u64 m 127 % 256) 128 = ((m.toNat % 128 + 128 : Nat) : Int) := by
  rw [u64_low7 h0 h, show m % 128 % 256 = m % 128 by omega, u8_hi (by omega) (by omega)]; omega

/-- A number of 64 bits with a sign. -/
def I64 (n : Int) : Prop := -9223372036854775808 ≤ n ∧ n ≤ 9223372036854775807
/-- 2n, or -2n - 1 below 0. -/
def zig (n : Int) : Nat := if n < 0 then (-2 * n - 1).toNat else (2 * n).toNat
def zag (n : Nat) : Int := if n % 2 = 1 then -((n / 2 : Nat) : Int) - 1 else ((n / 2 : Nat) : Int)
theorem zig_neg {n : Int} (h : I64 n) (hn : n < 0) : IntKind.u64.wrap (IntKind.u64.wrap (IntKind.u64.wrap (RowKit.wrap64 (-RowKit.wrap64 (n + 1))) * 2) + 1) = ((zig n : Nat) : Int) := by
  simp only [IntKind.wrap_u64, RowKit.wrap64, zig, if_pos hn]; unfold I64 at h; omega
theorem zig_pos {n : Int} (h : I64 n) (hn : ¬ n < 0) : IntKind.u64.wrap (IntKind.u64.wrap n * 2) = ((zig n : Nat) : Int) := by
  simp only [IntKind.wrap_u64, zig, if_neg hn]; unfold I64 at h; omega
theorem zig_neg' {n : Int} (h : I64 n) (hn : n < 0) : IntKind.u64.wrap (IntKind.u64.wrap (2 * IntKind.u64.wrap (RowKit.wrap64 (-RowKit.wrap64 (n + 1)))) + 1) = ((zig n : Nat) : Int) := by
  rw [Int.mul_comm]; exact zig_neg h hn
theorem zig_pos' {n : Int} (h : I64 n) (hn : ¬ n < 0) : IntKind.u64.wrap (2 * IntKind.u64.wrap n) = ((zig n : Nat) : Int) := by
  rw [Int.mul_comm]; exact zig_pos h hn
theorem zig_U64 {n : Int} (h : I64 n) : U64 (zig n) := by unfold U64 zig; unfold I64 at h; split <;> omega
theorem zag_zig (n : Int) : zag (zig n) = n := by unfold zag zig; split <;> split <;> omega
theorem zig_zag (n : Nat) : zig (zag n) = n := by unfold zag zig; split <;> split <;> omega
theorem zag_odd {n : Nat} (h : U64 n) : RowKit.wrap64 (RowKit.wrap64 (-RowKit.wrap64 (IntKind.u64.wrap ((n : Int) / 2))) - 1) = -((n / 2 : Nat) : Int) - 1 := by
  simp only [IntKind.wrap_u64, RowKit.wrap64]; unfold U64 at h; omega
theorem zag_even {n : Nat} (h : U64 n) : RowKit.wrap64 (IntKind.u64.wrap ((n : Int) / 2)) = ((n / 2 : Nat) : Int) := by
  simp only [IntKind.wrap_u64, RowKit.wrap64]; unfold U64 at h; omega
theorem zag_I64 {n : Nat} (h : U64 n) : I64 (zag n) := by unfold U64 at h; unfold I64 zag; split <;> omega

end Agio
