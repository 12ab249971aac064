/- The sum of bytes, bit by bit: plain mathematics, no program in sight. -/
import Derived.WalkKit
import Derived.Laws.BitsAllLaws
import Derived.Laws.BitsLemmas
namespace Agio
open Go

/-- A number of 32 bits. (A plain def: the walk does not see the numeral.) -/
def U32 (n : Nat) : Prop := n < 4294967296
/-- One bit. -/
def bit1 (w : Nat) : Nat := if w % 2 = 1 then (w / 2) ^^^ 3988292384 else w / 2
def bitN : Nat → Nat → Nat
  | 0, w => w
  | n + 1, w => bit1 (bitN n w)
/-- One byte. -/
def crcB (w : Nat) (c : UInt8) : Nat := bitN 8 (w ^^^ c.toNat)
def crcW (w : Nat) (l : List UInt8) : Nat := l.foldl crcB w
/-- The sum of bytes that have a sum, with l behind them. -/
def more (s : Nat) (l : List UInt8) : Nat := crcW (s ^^^ 4294967295) l ^^^ 4294967295

theorem U32.xor {a b : Nat} (ha : U32 a) (hb : U32 b) : U32 (a ^^^ b) := Nat.xor_lt_two_pow (n := 32) ha hb
theorem U32.byte (c : UInt8) : U32 c.toNat := by have := c.toNat_lt; unfold U32; omega
theorem U32.half {a : Nat} (h : U32 a) : U32 (a / 2) := by unfold U32 at *; omega
theorem U32.all : U32 4294967295 := by unfold U32; omega
theorem U32.pol : U32 3988292384 := by unfold U32; omega
theorem U32.zero : U32 0 := by unfold U32; omega
theorem bit1_U32 {w : Nat} (h : U32 w) : U32 (bit1 w) := by
  unfold bit1; split
  · exact h.half.xor U32.pol
  · exact h.half
theorem bitN_U32 {w : Nat} (h : U32 w) : ∀ n, U32 (bitN n w)
  | 0 => h
  | n + 1 => bit1_U32 (bitN_U32 h n)
theorem crcB_U32 {w : Nat} (h : U32 w) (c : UInt8) : U32 (crcB w c) := bitN_U32 (h.xor (U32.byte c)) 8
theorem crcW_U32 {w : Nat} (h : U32 w) (l : List UInt8) : U32 (crcW w l) := by
  unfold crcW
  induction l generalizing w with
  | nil => exact h
  | cons c l ih => exact ih (crcB_U32 h c)
theorem more_U32 {s : Nat} (h : U32 s) (l : List UInt8) : U32 (more s l) := (crcW_U32 (h.xor U32.all) l).xor U32.all
theorem crcW_take {w : Nat} {l : List UInt8} {k : Nat} (h : k < l.length) : crcW w (l.take (k + 1)) = crcB (crcW w (l.take k)) l[k] := by
  unfold crcW
  rw [List.take_succ_eq_append_getElem h, List.foldl_append]; rfl

theorem xor_inj {a b c : Nat} (h : a ^^^ c = b ^^^ c) : a = b := by
  have := congrArg (· ^^^ c) h
  simpa [Nat.xor_assoc] using this
theorem xor_inj' {a b c : Nat} (h : c ^^^ a = c ^^^ b) : a = b := xor_inj (c := c) (by rw [Nat.xor_comm a, Nat.xor_comm b]; exact h)
theorem bit1_top {a b : Nat} (ha : U32 a) (hb : U32 b) : (a / 2) ^^^ 3988292384 ≠ b / 2 := by
  intro h
  have := congrArg (·.testBit 31) h
  simp only [Nat.testBit_xor] at this
  rw [Nat.testBit_lt_two_pow (show a / 2 < 2 ^ 31 by unfold U32 at ha; omega), Nat.testBit_lt_two_pow (show b / 2 < 2 ^ 31 by unfold U32 at hb; omega)] at this
  revert this; decide
theorem bit1_inj {a b : Nat} (ha : U32 a) (hb : U32 b) (h : bit1 a = bit1 b) : a = b := by
  unfold bit1 at h
  by_cases h1 : a % 2 = 1 <;> by_cases h2 : b % 2 = 1
  · rw [if_pos h1, if_pos h2] at h
    have := xor_inj h
    omega
  · rw [if_pos h1, if_neg h2] at h
    exact absurd h (bit1_top ha hb)
  · rw [if_neg h1, if_pos h2] at h
    exact absurd h.symm (bit1_top hb ha)
  · rw [if_neg h1, if_neg h2] at h
    omega
theorem bitN_inj {a b : Nat} (ha : U32 a) (hb : U32 b) : ∀ n, bitN n a = bitN n b → a = b
  | 0, h => h
  | n + 1, h => bitN_inj ha hb n (bit1_inj (bitN_U32 ha n) (bitN_U32 hb n) h)
theorem crcB_inj {a b : Nat} (ha : U32 a) (hb : U32 b) {c : UInt8} (h : crcB a c = crcB b c) : a = b :=
  xor_inj (bitN_inj (ha.xor (U32.byte c)) (hb.xor (U32.byte c)) 8 h)
theorem crcB_inj' {a : Nat} (ha : U32 a) {c d : UInt8} (h : crcB a c = crcB a d) : c = d :=
  UInt8.toNat_inj.1 (xor_inj' (bitN_inj (ha.xor (U32.byte c)) (ha.xor (U32.byte d)) 8 h))
theorem crcW_inj {a b : Nat} (ha : U32 a) (hb : U32 b) (l : List UInt8) (h : crcW a l = crcW b l) : a = b := by
  unfold crcW at h
  induction l generalizing a b with
  | nil => exact h
  | cons c l ih => exact crcB_inj ha hb (ih (crcB_U32 ha c) (crcB_U32 hb c) h)
/-- Lists that differ in one byte have unlike sums. -/
theorem more_turned {s : Nat} (hs : U32 s) (p r : List UInt8) {c d : UInt8} (hne : c ≠ d) : more s (p ++ c :: r) ≠ more s (p ++ d :: r) := by
  intro h
  have h1 : crcW (s ^^^ 4294967295) (p ++ c :: r) = crcW (s ^^^ 4294967295) (p ++ d :: r) := xor_inj h
  simp only [crcW, List.foldl_append, List.foldl_cons] at h1
  have hp : U32 (p.foldl crcB (s ^^^ 4294967295)) := crcW_U32 (hs.xor U32.all) p
  exact hne (crcB_inj' hp (crcW_inj (crcB_U32 hp c) (crcB_U32 hp d) r h1))

/-! ### As the code says it -/
theorem u32_flip {n : Nat} (h : U32 n) : 4294967295 - n = n ^^^ 4294967295 := by
  have e : (n ^^^ 4294967295) = (4294967295 &&& (4294967295 - n)) ||| 0 := by
    apply Nat.eq_of_testBit_eq
    intro i
    simp only [Nat.testBit_xor, Nat.testBit_or, Nat.testBit_and, Nat.zero_testBit, Bool.or_false]
    have h1 : (4294967295 : Nat) = 2 ^ 32 - 1 := by decide
    have h2 : 4294967295 - n = 2 ^ 32 - (n + 1) := by unfold U32 at h; omega
    rw [h2, Nat.testBit_two_pow_sub_succ (by unfold U32 at h; omega), h1, Nat.testBit_two_pow_sub_one]
    by_cases hi : i < 32
    · simp [hi]
    · have : n.testBit i = false := Nat.testBit_lt_two_pow (Nat.lt_of_lt_of_le h (by have := Nat.pow_le_pow_right (n := 2) (by omega) (show 32 ≤ i by omega); simpa using this))
      simp [hi, this]
  rw [e, Nat.or_zero, Nat.and_comm, show (4294967295 : Nat) = 2 ^ 32 - 1 by decide, Nat.and_two_pow_sub_one_eq_mod, Nat.mod_eq_of_lt]
  unfold U32 at h; omega
theorem bits_odd {x : Nat} (h : U32 x) (ho : x % 2 = 1) : (bits .and .u32 (x : Int) 1 == 1) = true := by
  rw [show (1 : Int) = ((1 : Nat) : Int) from rfl, u32_and_nat x 1 h (by omega), nat_mask1, ho]; rfl
theorem bits_even {x : Nat} (h : U32 x) (ho : ¬ x % 2 = 1) : (bits .and .u32 (x : Int) 1 == 1) = false := by
  rw [show (1 : Int) = ((1 : Nat) : Int) from rfl, u32_and_nat x 1 h (by omega), nat_mask1, show x % 2 = 0 by omega]; rfl
theorem bits_pol {x : Nat} (h : U32 x) (ho : x % 2 = 1) : bits .xor .u32 ((x : Int) / 2) 3988292384 = ((bit1 x : Nat) : Int) := by
  unfold bit1
  rw [if_pos ho, show ((x : Int) / 2) = ((x / 2 : Nat) : Int) by omega, show (3988292384 : Int) = ((3988292384 : Nat) : Int) from rfl, u32_xor_nat _ _ h.half U32.pol]
theorem bits_half {x : Nat} (ho : ¬ x % 2 = 1) : (x : Int) / 2 = ((bit1 x : Nat) : Int) := by
  unfold bit1; rw [if_neg ho]; omega
theorem bits_pol' {x : Nat} (h : U32 x) (ho : x % 2 = 1) : bits .xor .u32 ((x : Int) / 2 % 4294967296) 3988292384 = ((bit1 x : Nat) : Int) := by
  rw [← bits_pol h ho, Int.emod_eq_of_lt (by omega) (by unfold U32 at h; omega)]
theorem bits_half' {x : Nat} (h : U32 x) (ho : ¬ x % 2 = 1) : (x : Int) / 2 % 4294967296 = ((bit1 x : Nat) : Int) := by
  rw [← bits_half ho, Int.emod_eq_of_lt (by omega) (by unfold U32 at h; omega)]
theorem bits_byte {m : Nat} (h : U32 m) (c : UInt8) : bits .xor .u32 (m : Int) ((c.toNat : Int) % 4294967296) = ((m ^^^ c.toNat : Nat) : Int) := by
  have := U32.byte c
  rw [show (c.toNat : Int) % 4294967296 = ((c.toNat : Nat) : Int) by unfold U32 at this; omega, u32_xor_nat _ _ h this]
theorem bits_byte' {m : Nat} (h : U32 m) (c : UInt8) : bits .xor .u32 (m : Int) (c.toNat : Int) = ((m ^^^ c.toNat : Nat) : Int) := u32_xor_nat _ _ h (U32.byte c)
theorem bits_compl {m : Nat} (h : U32 m) : bits .xor .u32 (if IntKind.u32.signed = true then -1 else IntKind.u32.max) (m : Int) = ((m ^^^ 4294967295 : Nat) : Int) := by
  rw [show (if IntKind.u32.signed = true then -1 else IntKind.u32.max) = ((4294967295 : Nat) : Int) from rfl, u32_xor_nat _ _ U32.all h, Nat.xor_comm]
theorem bits_all {m : Nat} (h : U32 m) : bits .xor .u32 (m : Int) 4294967295 = ((m ^^^ 4294967295 : Nat) : Int) := by
  rw [show (4294967295 : Int) = ((4294967295 : Nat) : Int) from rfl, u32_xor_nat _ _ h U32.all]
end Agio
