/- agioref20: Find, Better, Put. -/
import Derived.Test.YtdmmpcdilkcfjaaSideD
import Derived.Test.YtdmmpcdilkcfjaaGrow
import Derived.Test.YtdmmpcdilkcfjaaPlainRef20
namespace Go.Proofs.Ytdmmpcdilkcfjaa
open Go.RowKit Agio

/-- A list of orders that is read. -/
structure RfL (w : World) (A : Option Addr) (n c : Nat) (L : List Ord) : Prop where
  rd : RdS Ord.cells 7 w A n L
  cap : n ≤ c
  lt : ∀ k ∈ ablk A, k < w.heap.size
section
variable {w w' : World} {A : Option Addr} {n c : Nat} {L : List Ord}
theorem RfL.upd {a b : List Nat} (h : RfL w A n c L) (hu : Upd a b w w') (hd : ∀ k ∈ ablk A, k ∉ a) : RfL w' A n c L := ⟨h.rd.upd hu hd, h.cap, fun k hk => Nat.lt_of_lt_of_le (h.lt k hk) hu.size⟩
theorem RfL.upd0 {b : List Nat} (h : RfL w A n c L) (hu : Upd [] b w w') : RfL w' A n c L := h.upd hu (by simp)
theorem RfL.none_ (w : World) (c : Nat) : RfL w none 0 c [] := ⟨⟨rfl, Rd.none_⟩, Nat.zero_le _, by simp [ablk]⟩
theorem RfL.of_own {t : TypeId} (h : Agio.Own t 7 w A n c (L.flatMap Ord.cells)) : RfL w A n c L :=
  ⟨⟨by have := h.len; rw [flat_len ord_len] at this; omega, h.rd⟩, h.cap.1, h.lt⟩
end
theorem infoRefO : (Try.prog.info? 45).map (fun i => (i.zero, i.size, i.bytes)) = some (some (.agg #[.int .i64 0, .int .i64 0, .int .i64 0, .int .i64 0, .int .i64 0, .bool false, .int .i64 0]), 7, 56) := by kernel_rfl
theorem ords_one (L : List Ord) : ∀ u ∈ L.flatMap Ord.cells, u.oneCell' = true := fun u hu => by
  obtain ⟨o, _, ho⟩ := List.mem_flatMap.1 hu
  exact ord_one o u ho

/-- What Find answers. -/
def findI (id : Int) (L : List Ord) : Int := if idxO id L < L.length then (idxO id L : Int) else -1
set_option maxRecDepth 100000 in
set_option maxHeartbeats 2000000 in
theorem refFind (w : World) (A : Option Addr) (n c : Nat) (L : List Ord) (h : RdS Ord.cells 7 w A n L) (hl : L.length ≤ 1000000) (id : Int) :
    Calls Try.prog 48 #[.slice A n c, .int .i64 id] w fun e w' => e = .returned (.int .i64 (findI id L)) ∧ w = w' := by
  obtain rfl := h.len
  go_enter Try.func48, Try.ntmps48
  repeat' ((fail_if_success (with_reducible refine stop_append rfl ?_)); (fail_if_success (with_reducible refine stop_copy rfl ?_)); first | go_values | go_skip | go_guarded | go_step | go_upon | (simp only []; go_at_K))
  go_loopw [5] (fun v5 wr => ∃ i : Nat, i ≤ L.length ∧ v5 = .int .i64 (i : Int) ∧ (∀ j (hj : j < L.length), j < i → L[j].id ≠ id) ∧ wr = w) (fun v5 _ => L.length - (intOf v5).toNat)
  case atStart => exact ⟨0, by omega, rfl, by omega, rfl⟩
  case round =>
    obtain ⟨i, hi, rfl, hb, rfl⟩ := hrel
    by_cases hlt : i < L.length
    · have hil : (i : Int) < (L.length : Int) := by omega
      have hw1 : IntKind.i64.wrap ((i : Int) + 1) = (i : Int) + 1 := by rw [IntKind.wrap_i64]; omega
      obtain ⟨ad, rfl, a0, -⟩ := ord_at h hlt
      by_cases he : L[i].id = id
      · have he1 : (L[i].id == id) = true := by rw [he]; exact beq_self_eq_true _
        have hx : findI id L = (i : Int) := by rw [findI, idxO_at hlt he hb, if_pos hlt]
        have HX := Lib.hid hx
        clear hb he h hx
        generalize L[i].id = x at *
        repeat' ((fail_if_success (with_reducible refine stop_append rfl ?_)); (fail_if_success (with_reducible refine stop_copy rfl ?_)); first | go_values | go_skip | go_guarded | go_step | go_upon | (simp only []; go_at_K))
        go_ret
        exact ⟨by rw [HX.out]; rfl, rfl⟩
      · have he1 : (L[i].id == id) = false := beq_false_of_ne he
        have hb' : ∀ j (hj : j < L.length), j < i + 1 → L[j].id ≠ id := fun j hj hji => by
          by_cases e : j = i
          · subst e; exact he
          · exact hb j hj (by omega)
        clear hb he h
        generalize L[i].id = x at *
        repeat' ((fail_if_success (with_reducible refine stop_append rfl ?_)); (fail_if_success (with_reducible refine stop_copy rfl ?_)); first | go_values | go_skip | go_guarded | go_step | go_upon | (simp only []; go_at_K))
        exact ⟨⟨i + 1, by omega, by simp, hb', trivial⟩, by simp [intOf]; omega⟩
    · obtain rfl : i = L.length := by omega
      have hil : ¬ ((L.length : Int) < (L.length : Int)) := by omega
      have hx : findI id L = -1 := by rw [findI, idxO_none fun j hj => hb j hj hj, if_neg (by omega)]
      have HX := Lib.hid hx
      clear hb h hx
      repeat' ((fail_if_success (with_reducible refine stop_append rfl ?_)); (fail_if_success (with_reducible refine stop_copy rfl ?_)); first | go_values | go_skip | go_guarded | go_step | go_upon | (simp only []; go_at_K))
      go_ret
      exact ⟨by rw [HX.out]; rfl, rfl⟩

set_option maxRecDepth 100000 in
theorem refBetter (w : World) (s a b : Int) : Calls Try.prog 49 #[.int .i64 s, .int .i64 a, .int .i64 b] w fun e w' => e = .returned (.bool (better s a b)) ∧ w = w' := by
  unfold better
  by_cases h : s = 1
  · have h1 : (s == 1) = true := by rw [h]; rfl
    rw [if_pos h]
    clear h
    go_enter Try.func49, Try.ntmps49
    repeat' ((fail_if_success (with_reducible refine stop_append rfl ?_)); (fail_if_success (with_reducible refine stop_copy rfl ?_)); first | go_values | go_skip | go_guarded | go_step | go_upon | (simp only []; go_at_K))
    go_ret
    exact ⟨rfl, rfl⟩
  · have h1 : (s == 1) = false := beq_false_of_ne h
    rw [if_neg h]
    clear h
    go_enter Try.func49, Try.ntmps49
    repeat' ((fail_if_success (with_reducible refine stop_append rfl ?_)); (fail_if_success (with_reducible refine stop_copy rfl ?_)); first | go_values | go_skip | go_guarded | go_step | go_upon | (simp only []; go_at_K))
    go_ret
    exact ⟨rfl, rfl⟩
end Go.Proofs.Ytdmmpcdilkcfjaa
