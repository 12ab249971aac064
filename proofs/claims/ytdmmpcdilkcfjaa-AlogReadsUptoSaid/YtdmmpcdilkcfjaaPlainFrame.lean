/- Frames: plain mathematics. -/
import Derived.Test.YtdmmpcdilkcfjaaPlainCrc
namespace Agio
open Go

/-- A number as four bytes, the lowest first. -/
def four (n : Nat) : List UInt8 := [UInt8.ofNat n, UInt8.ofNat (n / 256), UInt8.ofNat (n / 65536), UInt8.ofNat (n / 16777216)]
/-- The number of four bytes. -/
def num4 (l : List UInt8) : Nat := (l.getD 0 0).toNat + 256 * (l.getD 1 0).toNat + 65536 * (l.getD 2 0).toNat + 16777216 * (l.getD 3 0).toNat
/-- The sum of a frame. -/
def fsum (z b : List UInt8) : Nat := more (more 0 z) b
/-- b in a frame. -/
def put (b : List UInt8) : List UInt8 := four b.length ++ four (fsum (four b.length) b) ++ b
/-- How many bytes are in the first frame, or the number of an error. -/
def fst (b : List UInt8) : Nat × Nat :=
  if b.length < 8 then (0, 3) else if 4096 < num4 b then (0, 5) else if b.length - 8 < num4 b then (0, 3)
  else if num4 (b.drop 4) ≠ fsum (b.take 4) ((b.drop 8).take (num4 b)) then (0, 4) else (num4 b, 0)

@[simp] theorem four_len (n : Nat) : (four n).length = 4 := rfl
theorem num4_U32 (l : List UInt8) : U32 (num4 l) := by
  unfold num4 U32
  have h0 := (l.getD 0 0).toNat_lt
  have h1 := (l.getD 1 0).toNat_lt
  have h2 := (l.getD 2 0).toNat_lt
  have h3 := (l.getD 3 0).toNat_lt
  omega
theorem num4_four {n : Nat} (h : U32 n) (r : List UInt8) : num4 (four n ++ r) = n := by
  unfold U32 at h
  simp [four, num4]
  omega
theorem num4_four' {n : Nat} (h : U32 n) : num4 (four n) = n := by simpa using num4_four h []
theorem four_of {a b c d : UInt8} : four (num4 [a, b, c, d]) = [a, b, c, d] := by
  have h0 := a.toNat_lt
  have h1 := b.toNat_lt
  have h2 := c.toNat_lt
  have h3 := d.toNat_lt
  have e : num4 [a, b, c, d] = a.toNat + 256 * b.toNat + 65536 * c.toNat + 16777216 * d.toNat := rfl
  unfold four
  rw [e]
  have f : ∀ (x : UInt8) (n : Nat), n % 256 = x.toNat → UInt8.ofNat n = x := fun x n h => by
    apply UInt8.toNat_inj.1; rw [UInt8.toNat_ofNat']; omega
  rw [f a _ (by omega), f b _ (by omega), f c _ (by omega), f d _ (by omega)]
theorem four_split {l : List UInt8} (h : 4 ≤ l.length) : l = four (num4 l) ++ l.drop 4 := by
  match l, h with
  | a :: b :: c :: d :: r, _ =>
    have e : num4 (a :: b :: c :: d :: r) = num4 [a, b, c, d] := rfl
    rw [e, four_of]; rfl
theorem take4 {l : List UInt8} (h : 4 ≤ l.length) : l.take 4 = four (num4 l) := by
  conv => lhs; rw [four_split h]
  rw [List.take_append_of_le_length (by simp)]; simp [four]
theorem fsum_U32 (z b : List UInt8) : U32 (fsum z b) := more_U32 (more_U32 U32.zero _) _
@[simp] theorem put_len (b : List UInt8) : (put b).length = 8 + b.length := by simp [put]; omega
theorem put_drop8 (b r : List UInt8) : (put b ++ r).drop 8 = b ++ r := by simp [put, four]
theorem fst_put {b : List UInt8} (h : b.length ≤ 4096) (r : List UInt8) : fst (put b ++ r) = (b.length, 0) := by
  have hU : U32 b.length := by unfold U32; omega
  have e1 : num4 (put b ++ r) = b.length := by unfold put; rw [List.append_assoc, List.append_assoc]; exact num4_four hU _
  have e2 : num4 ((put b ++ r).drop 4) = fsum (four b.length) b := by
    have : (put b ++ r).drop 4 = four (fsum (four b.length) b) ++ (b ++ r) := by simp [put, four]
    rw [this]; exact num4_four (fsum_U32 _ _) _
  have e3 : (put b ++ r).take 4 = four b.length := by rw [take4 (by simp; omega), e1]
  have hl : (put b ++ r).length = 8 + b.length + r.length := by simp
  unfold fst
  rw [if_neg (by omega), e1, if_neg (by omega), if_neg (by omega), e2, e3, put_drop8, List.take_left', if_neg (by simp)]
  rfl
theorem fst_bad {b : List UInt8} (h : (fst b).2 ≠ 0) : (fst b).1 = 0 ∧ ((fst b).2 = 3 ∨ (fst b).2 = 4 ∨ (fst b).2 = 5) := by
  unfold fst at h ⊢
  split
  · simp
  · split
    · simp
    · split
      · simp
      · split
        · simp
        · rename_i h1 h2 h3 h4; rw [if_neg h1, if_neg h2, if_neg h3, if_neg h4] at h; simp at h
theorem fst_ok {b : List UInt8} {n : Nat} (h : fst b = (n, 0)) : n ≤ 4096 ∧ 8 + n ≤ b.length ∧ b = put ((b.drop 8).take n) ++ b.drop (8 + n) := by
  unfold fst at h
  split at h
  · simp at h
  · split at h
    · simp at h
    · split at h
      · simp at h
      · split at h
        · simp at h
        · rename_i h1 h2 h3 h4
          simp only [Prod.mk.injEq, and_true] at h
          subst h
          refine ⟨by omega, by omega, ?_⟩
          have hl : ((b.drop 8).take (num4 b)).length = num4 b := by rw [List.length_take, List.length_drop]; omega
          have e1 := four_split (l := b) (by omega)
          have e2 := four_split (l := b.drop 4) (by rw [List.length_drop]; omega)
          have h5 : num4 (b.drop 4) = fsum (b.take 4) ((b.drop 8).take (num4 b)) := Classical.not_not.1 h4
          rw [take4 (by omega)] at h5
          unfold put
          rw [hl, ← h5, List.append_assoc, List.append_assoc]
          conv => lhs; rw [e1, e2]
          congr 2
          rw [List.drop_drop]
          conv => lhs; rw [← List.take_append_drop (num4 b) (b.drop (4 + 4))]
          rw [List.drop_drop]
/-- What is torn is no frame. -/
theorem fst_torn {b : List UInt8} (h : b.length ≤ 4096) {k : Nat} (hk : k < 8 + b.length) : fst ((put b).take k) = (0, 3) := by
  have hU : U32 b.length := by unfold U32; omega
  have hl : ((put b).take k).length = k := by rw [List.length_take, put_len]; omega
  by_cases h8 : k < 8
  · unfold fst; rw [if_pos (by omega)]
  · have e : num4 ((put b).take k) = b.length := by
      have : (put b).take k = four b.length ++ (four (fsum (four b.length) b) ++ b).take (k - 4) := by
        unfold put; rw [List.append_assoc, List.take_append, List.take_of_length_le (by simp; omega)]; simp
      rw [this]; exact num4_four hU _
    unfold fst
    rw [if_neg (by omega), e, if_neg (by omega), if_pos (by omega)]

/-! ### As the reference reckons -/
theorem four_take (n : Nat) : (four n).take 4 = four n := rfl
theorem four_step {n i : Nat} (h : i < 4) : (four n).take (i + 1) = (four n).take i ++ [UInt8.ofNat (n / 256 ^ i)] := by
  have : i = 0 ∨ i = 1 ∨ i = 2 ∨ i = 3 := by omega
  rcases this with rfl | rfl | rfl | rfl <;> simp [four]
/-- From the top: the number of the bytes from k on. -/
def hi4 (l : List UInt8) (k : Nat) : Nat := if k = 0 then num4 l else if k = 1 then (l.getD 1 0).toNat + 256 * (l.getD 2 0).toNat + 65536 * (l.getD 3 0).toNat else if k = 2 then (l.getD 2 0).toNat + 256 * (l.getD 3 0).toNat else if k = 3 then (l.getD 3 0).toNat else 0
theorem hi4_step {l : List UInt8} {k : Nat} (hk : k < 4) (hl : k < l.length) : hi4 l k = hi4 l (k + 1) * 256 + l[k].toNat := by
  have h0 : l[k] = l.getD k 0 := by simp [hl]
  rw [h0]
  have : k = 0 ∨ k = 1 ∨ k = 2 ∨ k = 3 := by omega
  rcases this with rfl | rfl | rfl | rfl <;> simp [hi4, num4] <;> omega
theorem hi4_U32 (l : List UInt8) (k : Nat) : U32 (hi4 l k) := by
  have h := num4_U32 l
  have h0 := (l.getD 0 0).toNat_lt
  have h1 := (l.getD 1 0).toNat_lt
  have h2 := (l.getD 2 0).toNat_lt
  have h3 := (l.getD 3 0).toNat_lt
  unfold hi4 U32 at *
  split
  · exact h
  · split
    · omega
    · split
      · omega
      · split <;> omega
theorem hi4_wrap {x c h : Nat} (e : h = x * 256 + c) (hU : U32 h) : (x : Int) * 256 % 4294967296 + c = ((h : Nat) : Int) := by
  unfold U32 at hU; omega

/-- As the code reckons. -/
theorem or_up {a b i : Nat} (h : a < 2 ^ i) (hb : b % 2 ^ i = 0) (hU : U32 (a + b)) : bits .or .u32 (a : Int) (b : Int) = ((a + b : Nat) : Int) := by
  unfold U32 at hU
  rw [u32_or_nat a b (by omega) (by omega), Nat.or_comm, nat_join i b a hb h, Nat.add_comm]
theorem or4 {x0 x1 x2 x3 m : Nat} (h0 : x0 < 256) (h1 : x1 < 256) (h2 : x2 < 256) (h3 : x3 < 256) (hm : m = x0 + 256 * x1 + 65536 * x2 + 16777216 * x3) :
    bits .or .u32 (bits .or .u32 (bits .or .u32 ((x0 : Int) % 4294967296) ((x1 : Int) % 4294967296 * 256 % 4294967296)) ((x2 : Int) % 4294967296 * 65536 % 4294967296)) ((x3 : Int) % 4294967296 * 16777216 % 4294967296) = ((m : Nat) : Int) := by
  have e0 : (x0 : Int) % 4294967296 = ((x0 : Nat) : Int) := by omega
  have e1 : (x1 : Int) % 4294967296 * 256 % 4294967296 = ((256 * x1 : Nat) : Int) := by omega
  have e2 : (x2 : Int) % 4294967296 * 65536 % 4294967296 = ((65536 * x2 : Nat) : Int) := by omega
  have e3 : (x3 : Int) % 4294967296 * 16777216 % 4294967296 = ((16777216 * x3 : Nat) : Int) := by omega
  rw [e0, e1, e2, e3, or_up (i := 8) (by omega) (by omega) (by unfold U32; omega), or_up (i := 16) (by omega) (by omega) (by unfold U32; omega), or_up (i := 24) (by omega) (by omega) (by unfold U32; omega), hm]
theorem num4_get {b : List UInt8} (h : 4 ≤ b.length) : num4 b = b[0].toNat + 256 * b[1].toNat + 65536 * b[2].toNat + 16777216 * b[3].toNat := by
  match b, h with
  | _ :: _ :: _ :: _ :: _, _ => rfl

theorem four_ne {x y : Nat} (hx : U32 x) (hy : U32 y) (h : y ≠ x) : (!(((y : Int) % 256 == (x : Int) % 256) && (((y : Int) / 256 % 256 == (x : Int) / 256 % 256) && (((y : Int) / 65536 % 256 == (x : Int) / 65536 % 256) && ((y : Int) / 16777216 % 256 == (x : Int) / 16777216 % 256))))) = true := by
  unfold U32 at hx hy
  rw [Bool.not_eq_true', Bool.eq_false_iff]
  intro hh
  simp only [Bool.and_eq_true, beq_iff_eq] at hh
  omega
theorem four_get {y : Nat} {a b c d : UInt8} (h : four y = [a, b, c, d]) : (a.toNat : Int) = (y : Int) % 256 ∧ (b.toNat : Int) = (y : Int) / 256 % 256 ∧ (c.toNat : Int) = (y : Int) / 65536 % 256 ∧ (d.toNat : Int) = (y : Int) / 16777216 % 256 := by
  simp only [four, List.cons.injEq, and_true] at h
  obtain ⟨rfl, rfl, rfl, rfl⟩ := h
  simp

/-! ### All frames from the beginning on -/
def scan (b : List UInt8) : List (List UInt8) × Nat :=
  if (fst b).2 = 0 then
    if b.length < 8 then ([], 0) else ((b.drop 8).take (fst b).1 :: (scan (b.drop (8 + (fst b).1))).1, 8 + (fst b).1 + (scan (b.drop (8 + (fst b).1))).2)
  else ([], 0)
termination_by b.length
decreasing_by all_goals (rw [List.length_drop]; omega)
theorem scan_no {b : List UInt8} (h : (fst b).2 ≠ 0) : scan b = ([], 0) := by rw [scan, if_neg h]
theorem scan_yes {b : List UInt8} {n : Nat} (h : fst b = (n, 0)) : scan b = ((b.drop 8).take n :: (scan (b.drop (8 + n))).1, 8 + n + (scan (b.drop (8 + n))).2) := by
  have := fst_ok h
  rw [scan, h, if_pos rfl, if_neg (by omega)]
theorem scan_put {b : List UInt8} (h : b.length ≤ 4096) (r : List UInt8) : scan (put b ++ r) = (b :: (scan r).1, 8 + b.length + (scan r).2) := by
  rw [scan_yes (fst_put h r), put_drop8, List.take_left']
  · have : (put b ++ r).drop (8 + b.length) = r := by rw [← put_len b, List.drop_left']; rfl
    rw [this]
  · rfl
theorem scan_nil : scan [] = ([], 0) := scan_no (by unfold fst; simp)
theorem scan_puts {l : List (List UInt8)} (h : ∀ b ∈ l, b.length ≤ 4096) (r : List UInt8) : scan (l.flatMap put ++ r) = (l ++ (scan r).1, (l.flatMap put).length + (scan r).2) := by
  induction l with
  | nil => simp
  | cons b l ih =>
    rw [List.flatMap_cons, List.append_assoc, scan_put (h b (by simp)), ih (fun c hc => h c (by simp [hc]))]
    simp only [List.cons_append, List.length_append, put_len, Prod.mk.injEq, true_and]; omega
theorem scan_ok (b : List UInt8) : (scan b).2 ≤ b.length ∧ b.take (scan b).2 = (scan b).1.flatMap put ∧ ∀ x ∈ (scan b).1, x.length ≤ 4096 := by
  induction hn : b.length using Nat.strongRecOn generalizing b with
  | _ n ih =>
    subst hn
    by_cases h : (fst b).2 = 0
    · obtain ⟨m, hm⟩ : ∃ m, fst b = (m, 0) := ⟨(fst b).1, by rw [← h]⟩
      obtain ⟨h1, h2, h3⟩ := fst_ok hm
      obtain ⟨i1, i2, i3⟩ := ih (b.drop (8 + m)).length (by rw [List.length_drop]; omega) _ rfl
      rw [scan_yes hm]
      refine ⟨by rw [List.length_drop] at i1; simp only; omega, ?_, fun x hx => ?_⟩
      · have hl : (put ((b.drop 8).take m)).length = 8 + m := by rw [put_len, List.length_take, List.length_drop]; omega
        simp only [List.flatMap_cons]
        rw [← i2]
        generalize (scan (b.drop (8 + m))).2 = z
        conv => lhs; rw [h3]
        rw [List.take_append, hl, List.take_of_length_le (by omega)]
        congr 2; omega
      · rcases List.mem_cons.1 hx with rfl | hx
        · rw [List.length_take]; omega
        · exact i3 x hx
    · rw [scan_no h]; simp
/-- Of a beginning of frames those that are whole in it. -/
theorem scan_torn {l : List (List UInt8)} (h : ∀ b ∈ l, b.length ≤ 4096) (k : Nat) (hk : k ≤ (l.flatMap put).length) :
    ∃ m, m ≤ l.length ∧ (scan ((l.flatMap put).take k)).1 = l.take m ∧ (scan ((l.flatMap put).take k)).2 = ((l.take m).flatMap put).length ∧ ((l.take m).flatMap put).length ≤ k ∧ (∀ (hm : m < l.length), k < ((l.take m).flatMap put).length + (put l[m]).length) := by
  induction l generalizing k with
  | nil => simp at hk; subst hk; exact ⟨0, by simp, by simp [scan_nil], by simp [scan_nil], by simp, by simp⟩
  | cons b l ih =>
    have hb := h b (by simp)
    by_cases hlt : k < 8 + b.length
    · refine ⟨0, by simp, ?_, ?_, by simp, fun _ => by simpa using hlt⟩ <;>
      · rw [List.flatMap_cons, List.take_append_of_le_length (by rw [put_len]; omega), scan_no (by rw [fst_torn hb hlt]; simp)]; simp
    · rw [List.flatMap_cons, List.length_append, put_len] at hk
      obtain ⟨m, h1, h2, h3, h4, h5⟩ := ih (fun c hc => h c (by simp [hc])) (k - (8 + b.length)) (by omega)
      have e : ((b :: l).flatMap put).take k = put b ++ (l.flatMap put).take (k - (8 + b.length)) := by
        rw [List.flatMap_cons, List.take_append, put_len, List.take_of_length_le (by rw [put_len]; omega)]
      refine ⟨m + 1, by simp; omega, ?_, ?_, ?_, ?_⟩
      · rw [e, scan_put hb, h2]; simp
      · rw [e, scan_put hb, h3]; simp
      · simp only [List.take_succ_cons, List.flatMap_cons, List.length_append, put_len]; omega
      · intro hm
        have := h5 (by simpa using hm)
        simp only [List.take_succ_cons, List.flatMap_cons, List.length_append, put_len, List.getElem_cons_succ] at this ⊢; omega
end Agio
