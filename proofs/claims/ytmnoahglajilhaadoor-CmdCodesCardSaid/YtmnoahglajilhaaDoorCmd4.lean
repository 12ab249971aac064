/- (agio/cmd).Encode. -/
import Derived.Test.YtmnoahglajilhaaDoorCmd3
import Derived.Test.YtmnoahglajilhaaDoorPlainCmd
namespace Go.Proofs.YtmnoahglajilhaaDoor
open Go.RowKit Agio

/-- The numbers with a sign. -/
def Cm.tail (c : Cm) : List Int := [c.sq, c.tm, c.s, c.a, c.p, c.q, c.i]
/-- A command's bytes. -/
def Cm.bytes (c : Cm) : List UInt8 := leb c.k.toNat ++ leb c.cl.toNat ++ zigs c.tail
structure Cm.I (c : Cm) : Prop where
  k : I64 c.k
  cl : I64 c.cl
  tail : ∀ n ∈ c.tail, I64 n
theorem flds_kind {k s a p q i : Int} (h : flds k s a p q i = true) : 0 ≤ k ∧ k ≤ 11 := by
  unfold flds at h
  by_cases h1 : 0 ≤ k ∧ k ≤ 11
  · exact h1
  · exfalso
    simp only [show ¬ k = 0 by omega, show ¬ k = 1 by omega, show ¬ k = 2 by omega, show ¬ k = 3 by omega, show ¬ k = 4 by omega, show ¬ k = 5 by omega, show ¬ k = 6 by omega, show ¬ k = 7 by omega, show ¬ k = 8 by omega, show ¬ k = 9 by omega, show ¬ k = 10 by omega, show ¬ k = 11 by omega, if_false] at h
    cases h
theorem Cm.may_k {c : Cm} (h : c.may = true) : (0 ≤ c.k ∧ c.k ≤ 11) ∧ 1 ≤ c.cl ∧ c.cl ≤ 64 := by
  simp only [Cm.may, Bool.and_eq_true] at h
  have h1 := h.1.1.1
  simp only [wi, Bool.and_eq_true, decide_eq_true_eq] at h1
  exact ⟨flds_kind h.2, h1⟩

/-- The error of a command that may not be. -/
def cmdErr : Value := .iface 67 (.agg #[.iface 36 (.int .i64 1)])
theorem cmdErr_val : cmdErr = (Er.cf (.no 1)).val := rfl

set_option maxRecDepth 100000 in
set_option maxHeartbeats 4000000 in
theorem cmdEncode_bad (c : Cm) (hm : c.may = false) (w : World) :
    Calls Tryd.prog 7 #[c.val] w fun e w' => e = .returned (.tuple #[.slice none 0 0, cmdErr]) ∧ Upd [] [] w w' := by
  have C := cmdMay c
  have E : c.err = 1 := by simp [Cm.err, hm]
  simp only [E] at C
  clear hm E
  obtain ⟨k, cl, sq, tm, s, a, p, q, i⟩ := c
  simp only [Cm.val] at C ⊢
  go_enter Tryd.func7, Tryd.ntmps7
  repeat' ((fail_if_success (with_reducible refine stop_append rfl ?_)); (fail_if_success (with_reducible refine stop_copy rfl ?_)); first | go_values | go_skip | go_guarded | go_step | go_upon | (simp only []; go_at_K))
  refine (C _).mono ?_
  rintro e w1 ⟨rfl, hu1⟩
  clear C
  repeat' ((fail_if_success (with_reducible refine stop_append rfl ?_)); (fail_if_success (with_reducible refine stop_copy rfl ?_)); first | go_values | go_skip | go_guarded | go_step | go_upon | (simp only []; go_at_K))
  go_ret2
  exact ⟨rfl, ((Upd.refl _ _).alloc _).trans hu1⟩

set_option maxRecDepth 100000 in
set_option maxHeartbeats 4000000 in
theorem cmdEncode_ok (c : Cm) (hm : c.may = true) (hI : c.I) (w : World) :
    Calls Tryd.prog 7 #[c.val] w fun e w' => ∃ A k' c', e = .returned (.tuple #[.slice A k' c', .nilIface]) ∧ OwnB 5 w' A k' c' c.bytes ∧ Upd [] (ablk A) w w' := by
  have C := cmdMay c
  have E : c.err = 0 := by simp [Cm.err, hm]
  simp only [E] at C
  obtain ⟨⟨hk0, hk1⟩, hc0, hc1⟩ := Cm.may_k hm
  have ht := hI.tail
  have HB : Hid (c.bytes = leb c.k.toNat ++ leb c.cl.toNat ++ zigs c.tail) := rfl
  have hzl : ∀ j, (zigs (c.tail.take j)).length ≤ 70 := fun j => by
    have := zigs_len (l := c.tail.take j) fun n hn => ht n (List.mem_of_mem_take hn)
    have h2 : (c.tail.take j).length ≤ 7 := by rw [List.length_take]; simp [Cm.tail]; omega
    omega
  have hl1 := leb_len (n := c.k.toNat) (U64.small (by omega))
  have hl2 := leb_len (n := c.cl.toNat) (U64.small (by omega))
  have hix : ∀ (j : Nat) (h : j < c.tail.length) (w : World), (Instr.index 72 (.agg #[.int .i64 c.sq, .int .i64 c.tm, .int .i64 c.s, .int .i64 c.a, .int .i64 c.p, .int .i64 c.q, .int .i64 c.i]) (.int .i64 (j : Int))).run Tryd.prog w = .ok (.int .i64 c.tail[j]) w := by
    intro j h w
    have h7 : j < 7 := by simpa [Cm.tail] using h
    have : j = 0 ∨ j = 1 ∨ j = 2 ∨ j = 3 ∨ j = 4 ∨ j = 5 ∨ j = 6 := by omega
    obtain ⟨k, cl, sq, tm, s, a, p, q, i⟩ := c
    rcases this with rfl | rfl | rfl | rfl | rfl | rfl | rfl <;> exact (show _ = _ by kernel_rfl)
  have HX := Lib.hid hix; clear hix
  have htl : c.tail.length = 7 := rfl
  have HTL := Lib.hid htl; clear htl
  clear E hm hI
  have HC : Hid (∀ w, Calls Tryd.prog 11 #[.agg #[.int .i64 c.k, .int .i64 c.cl, .int .i64 c.sq, .int .i64 c.tm, .int .i64 c.s, .int .i64 c.a, .int .i64 c.p, .int .i64 c.q, .int .i64 c.i]] w fun e w' => e = .returned (.int .i64 0) ∧ Upd [] [] w w') := C
  clear C
  have HT := Lib.hid ht; clear ht
  rw [Cm.val]
  go_enter Tryd.func7, Tryd.ntmps7
  repeat' ((fail_if_success (with_reducible refine stop_append rfl ?_)); (fail_if_success (with_reducible refine stop_copy rfl ?_)); first | go_values | go_skip | go_guarded | go_step | go_upon | (simp only []; go_at_K))
  refine (HC.out _).mono ?_
  rintro e w1 ⟨rfl, hu1⟩
  have hB0 := (Blk.new w 23 #[.int .i64 c.k, .int .i64 c.cl, .int .i64 c.sq, .int .i64 c.tm, .int .i64 c.s, .int .i64 c.a, .int .i64 c.p, .int .i64 c.q, .int .i64 c.i]).upd hu1 (by simp)
  have hU1 : Upd [] [] w w1 := ((Upd.refl [] w).alloc _).trans hu1
  have hsz1 : w.heap.size + 1 ≤ w1.heap.size := by have := hu1.size; simpa using this
  clear HC hu1
  have b0 := (hB0.alloc (.cells #[.slice none 0 0] 69)).cell 0
  simp at b0
  repeat' ((fail_if_success (with_reducible refine stop_append rfl ?_)); (fail_if_success (with_reducible refine stop_copy rfl ?_)); first | go_values | go_skip | go_guarded | go_step | go_upon | (simp only []; go_at_K))
  refine (writerUint c.k _ w1.heap.size none 0 0 [] hk0 (U64.small (by omega)) ⟨Blk.new _ _ _, (OwnB.nil _ _).alloc _⟩ (by decide)).mono ?_
  rintro e w2 ⟨rfl, A2, k2, c2, hw2, hu2⟩
  have U2 : Upd [] (w1.heap.size :: ablk A2) w1 w2 := (((Upd.refl [] w1).alloc _).gives (b' := w1.heap.size :: ablk none) (by simp [ablk])).trans hu2
  have b1 := (hB0.upd U2 (by simp)).cell 1
  simp at b1
  rw [List.nil_append] at hw2
  clear b0 hu2
  repeat' ((fail_if_success (with_reducible refine stop_append rfl ?_)); (fail_if_success (with_reducible refine stop_copy rfl ?_)); first | go_values | go_skip | go_guarded | go_step | go_upon | (simp only []; go_at_K))
  refine (writerUint c.cl _ w1.heap.size A2 k2 c2 _ (by omega) (U64.small (by omega)) hw2 (by omega)).mono ?_
  rintro e w3 ⟨rfl, A3, k3, c3, hw3, hu3⟩
  have U3 := U2.trans hu3
  have hB3 := hB0.upd U3 (by simp)
  have b2 := hB3.cell 2
  have b3 := hB3.cell 3
  have b4 := hB3.cell 4
  have b5 := hB3.cell 5
  have b6 := hB3.cell 6
  have b7 := hB3.cell 7
  have b8 := hB3.cell 8
  simp at b2 b3 b4 b5 b6 b7 b8
  clear b1 hu3 U2 hw2
  repeat' ((fail_if_success (with_reducible refine stop_append rfl ?_)); (fail_if_success (with_reducible refine stop_copy rfl ?_)); first | go_values | go_skip | go_guarded | go_step | go_upon | (simp only []; go_at_K))
  clear b2 b3 b4 b5 b6 b7 b8
  go_loopw [39] (fun v39 wr => ∃ (j : Nat) (A4 : Option Addr) (k4 c4 : Nat), j ≤ 7 ∧ v39 = .int .i64 (j : Int) ∧ Wr wr w1.heap.size A4 k4 c4 (leb c.k.toNat ++ leb c.cl.toNat ++ zigs (c.tail.take j)) ∧ Upd [] (w1.heap.size :: ablk A4) w1 wr)
    (fun v39 _ => 7 - (intOf v39).toNat)
  case atStart => exact ⟨0, A3, k3, c3, by omega, rfl, by simpa [zigs] using hw3, U3⟩
  case round =>
    obtain ⟨j, A4, k4, c4, hj, rfl, hw4, U4⟩ := hrel
    have hz := hzl j
    by_cases hlt : j < 7
    · have hjt : j < c.tail.length := by rw [HTL.out]; exact hlt
      have hij := HX.out j hjt
      have hI := HT.out c.tail[j] (List.getElem_mem hjt)
      have HS := Lib.hid (zigs_take hjt)
      generalize c.tail[j] = x at *
      repeat' ((fail_if_success (with_reducible refine stop_append rfl ?_)); (fail_if_success (with_reducible refine stop_copy rfl ?_)); first | go_values | go_skip | go_guarded | go_step | go_upon | (simp only []; go_at_K))
      refine (writerInt x _ w1.heap.size A4 k4 c4 _ hI hw4 (by simp only [List.length_append]; omega)).mono ?_
      rintro e w5 ⟨rfl, A5, k5, c5, hw5, hu5⟩
      repeat' ((fail_if_success (with_reducible refine stop_append rfl ?_)); (fail_if_success (with_reducible refine stop_copy rfl ?_)); first | go_values | go_skip | go_guarded | go_step | go_upon | (simp only []; go_at_K))
      refine ⟨⟨j + 1, A5, k5, c5, by omega, by simp, ?_, U4.trans hu5⟩, by simp [intOf] <;> omega⟩
      rw [HS.out, ← List.append_assoc]; exact hw5
    · obtain rfl : j = 7 := by omega
      repeat' ((fail_if_success (with_reducible refine stop_append rfl ?_)); (fail_if_success (with_reducible refine stop_copy rfl ?_)); first | go_values | go_skip | go_guarded | go_step | go_upon | (simp only []; go_at_K))
      refine (writerTold _ _ A4 k4 c4 _ hw4 (by simp only [List.length_append]; omega)).mono ?_
      rintro e w5 ⟨A5, k5, c5, rfl, ho5, hu5⟩
      repeat' ((fail_if_success (with_reducible refine stop_append rfl ?_)); (fail_if_success (with_reducible refine stop_copy rfl ?_)); first | go_values | go_skip | go_guarded | go_step | go_upon | (simp only []; go_at_K))
      go_ret2
      refine ⟨A5, k5, c5, rfl, ?_, hU1.trans ((U4.gives (b' := []) (by simp)).trans hu5)⟩
      rw [HB.out, ← List.take_length (l := c.tail), HTL.out]
      exact ho5
end Go.Proofs.YtmnoahglajilhaaDoor
