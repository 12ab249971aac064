/- agiolaw20.SideFails. -/
import Derived.Test.YtlkgmedkphcjpaaFill
import Derived.Test.YtlkgmedkphcjpaaOrdEq
import Derived.Test.YtlkgmedkphcjpaaOrdIn
namespace Go.Proofs.Ytlkgmedkphcjpaa
open Go.RowKit Agio Go.Maps

set_option maxRecDepth 100000 in
theorem sideNew_no (w : World) (s : Int) (hs : s = 0 ∨ s = 3) : Calls Try.prog 31 #[.int .i64 s] w fun e w' => e = .returned (.pointer none) ∧ w = w' := by
  rcases hs with rfl | rfl
  all_goals
    go_enter Try.func31, Try.ntmps31
    repeat' ((fail_if_success (with_reducible refine stop_append rfl ?_)); (fail_if_success (with_reducible refine stop_copy rfl ?_)); first | go_values | go_skip | go_guarded | go_step | go_upon | (simp only []; go_at_K))
    go_ret
    exact ⟨rfl, rfl⟩

theorem fillL_one (s : Int) (b : List UInt8) {k : Nat} (hk : 0 < k) : (findO 1 (fillL s b k)).isSome = true := by
  have h : ∃ o ∈ fillL s b k, o.id = 1 := by
    induction k with
    | zero => omega
    | succ k ih =>
      by_cases h0 : k = 0
      · subst h0; exact ⟨mkO s 0 (b.getD 0 0), mem_insO.2 (.inl rfl), rfl⟩
      · obtain ⟨o, ho, e⟩ := ih (by omega)
        exact ⟨o, mem_insO.2 (.inr ho), e⟩
  unfold findO
  rw [List.find?_isSome]
  obtain ⟨o, ho, e⟩ := h
  exact ⟨o, ho, by simpa using e⟩

set_option maxRecDepth 100000 in
set_option maxHeartbeats 4000000 in
theorem sideFails_any (w : World) (sell : Bool) (A : Option Addr) (n c : Nat) (b : List UInt8) (hb : RdB w A n b) (o : Ord) :
    Calls Try.prog 5 #[.bool sell, .slice A n c, o.val] w fun e w' => e = .returned (.bool true) ∧ Upd [] [] w w' := by
  obtain rfl := hb.len
  have hs12 : (if sell = true then 2 else 1 : Int) = 1 ∨ (if sell = true then 2 else 1 : Int) = 2 := by cases sell <;> simp
  have U0 : Upd [] [] w (w.alloc (.cells #[.int .i64 o.id, .int .i64 o.client, .int .i64 o.side, .int .i64 o.price, .int .i64 o.qty, .bool o.peg, .int .i64 o.off] 54)) := (Upd.refl _ _).alloc _
  have hB0 := Blk.new w 54 #[.int .i64 o.id, .int .i64 o.client, .int .i64 o.side, .int .i64 o.price, .int .i64 o.qty, .bool o.peg, .int .i64 o.off]
  have hb0 := hb.upd U0 (by simp)
  obtain ⟨b4, hb4⟩ : ∃ b4, w.heap.size = b4 := ⟨_, rfl⟩
  have hlt : w.heap.size ≤ b4 := by omega
  have hX : Hid (Blk (w.alloc (.cells #[.int .i64 o.id, .int .i64 o.client, .int .i64 o.side, .int .i64 o.price, .int .i64 o.qty, .bool o.peg, .int .i64 o.off] 54)) b4 54 #[.int .i64 o.id, .int .i64 o.client, .int .i64 o.side, .int .i64 o.price, .int .i64 o.qty, .bool o.peg, .int .i64 o.off]) := Lib.hid (hb4 ▸ hB0)
  have hU := Lib.hid U0
  have hBB := Lib.hid hb0
  clear hB0 U0 hb0
  rw [Ord.val]
  go_enter Try.func5, Try.ntmps5
  repeat' ((fail_if_success (with_reducible refine stop_append rfl ?_)); (fail_if_success (with_reducible refine stop_copy rfl ?_)); first | go_values | go_skip | go_guarded | go_step | go_upon | (simp only []; go_at_K))
  ((with_reducible refine (awake20 _).mono ?_); rintro e w1 ⟨rfl, hu1⟩)
  have U1 := hU.out.trans hu1
  have hb1 := hBB.out.upd hu1 (by simp)
  have hB1 := hX.out.upd hu1 (by simp)
  clear hX hBB hU hu1 hb
  repeat' ((fail_if_success (with_reducible refine stop_append rfl ?_)); (fail_if_success (with_reducible refine stop_copy rfl ?_)); first | go_values | go_skip | go_guarded | go_step | go_upon | (simp only []; go_at_K))
  ((with_reducible refine (law20Pick _ sell).mono ?_); rintro e w2 ⟨rfl, rfl⟩)
  repeat' ((fail_if_success (with_reducible refine stop_append rfl ?_)); (fail_if_success (with_reducible refine stop_copy rfl ?_)); first | go_values | go_skip | go_guarded | go_step | go_upon | (simp only []; go_at_K))
  ((with_reducible refine (law20Filled _ _ hs12 A _ c b hb1).mono ?_); rintro e w2 ⟨g, bo, br, R, rfl, h2, hu2⟩)
  have U2 : Upd [] [] w w2 := (U1.trans hu2).gives (by simp)
  have hfr : Hid (∀ k ∈ fpS g bo br R, w.heap.size ≤ k) := Lib.hid fun k hk => by
    rcases hu2.fresh k hk with h | h
    · cases h
    · exact Nat.le_trans U1.size h
  have hB2 := hB1.upd hu2 (by simp)
  generalize hs : (if sell = true then 2 else 1 : Int) = s at *
  repeat' ((fail_if_success (with_reducible refine stop_append rfl ?_)); (fail_if_success (with_reducible refine stop_copy rfl ?_)); first | go_values | go_skip | go_guarded | go_step | go_upon | (simp only []; go_at_K))
  ((with_reducible refine (sideList w2 g bo br s R _ h2).mono ?_); rintro e w3 ⟨A3, c3, rfl, ho, hu3⟩)
  have h3 := h2.upd0 hu3
  have U3 : Upd [] [] w w3 := U2.trans (hu3.gives (by simp))
  have hB3 := hB2.upd hu3 (by simp)
  have hlen := fillL_len s b (min b.length 60)
  have hids : ∀ o ∈ fillL s b (min b.length 60), o.id = 1 → True := fun _ _ _ => trivial
  obtain ⟨m, hm⟩ : ∃ m, min b.length 60 = m := ⟨_, rfl⟩
  rw [hm] at h3 ho hlen ⊢
  obtain ⟨L, hL⟩ : ∃ L, fillL s b m = L := ⟨_, rfl⟩
  rw [hL] at h3 ho hlen ⊢
  have HL := Lib.hid hL
  clear hL hm h2 hu2 hu3 U1 U2 hB1 hB2 hb1 hids
  obtain ⟨⟨p0, p1, p2, p3, p4, p5, p6⟩, -⟩ := hB3.c7
  have hw3 : IntKind.i64.wrap (3 - s) = 3 - s := by rw [IntKind.wrap_i64]; omega
  have B3 := hB3
  obtain ⟨W0, e0⟩ : ∃ W, w3.alloc (.cells #[.int .i64 o.id, .int .i64 o.client, .int .i64 (3 - s), .int .i64 o.price, .int .i64 o.qty, .bool o.peg, .int .i64 o.off] 54) = W := ⟨_, rfl⟩
  have D0 : Upd [] [] w3 W0 := by rw [← e0]; exact (Upd.refl _ _).alloc _
  obtain ⟨n0, k0⟩ : ∃ n, w3.heap.size = n := ⟨_, rfl⟩
  have N0 : Blk W0 n0 54 #[.int .i64 o.id, .int .i64 o.client, .int .i64 (3 - s), .int .i64 o.price, .int .i64 o.qty, .bool o.peg, .int .i64 o.off] := by rw [← e0, ← k0]; exact Blk.new _ _ _
  obtain ⟨W1, e1⟩ : ∃ W, W0.alloc (.cells #[.int .i64 o.id, .int .i64 o.client, .int .i64 s, .int .i64 0, .int .i64 o.qty, .bool o.peg, .int .i64 o.off] 54) = W := ⟨_, rfl⟩
  have D1 : Upd [] [] W0 W1 := by rw [← e1]; exact (Upd.refl _ _).alloc _
  obtain ⟨n1, k1⟩ : ∃ n, W0.heap.size = n := ⟨_, rfl⟩
  have N1 : Blk W1 n1 54 #[.int .i64 o.id, .int .i64 o.client, .int .i64 s, .int .i64 0, .int .i64 o.qty, .bool o.peg, .int .i64 o.off] := by rw [← e1, ← k1]; exact Blk.new _ _ _
  obtain ⟨W2, e2⟩ : ∃ W, W1.alloc (.cells #[.int .i64 o.id, .int .i64 o.client, .int .i64 s, .int .i64 1073741825, .int .i64 o.qty, .bool o.peg, .int .i64 o.off] 54) = W := ⟨_, rfl⟩
  have D2 : Upd [] [] W1 W2 := by rw [← e2]; exact (Upd.refl _ _).alloc _
  obtain ⟨n2, k2⟩ : ∃ n, W1.heap.size = n := ⟨_, rfl⟩
  have N2 : Blk W2 n2 54 #[.int .i64 o.id, .int .i64 o.client, .int .i64 s, .int .i64 1073741825, .int .i64 o.qty, .bool o.peg, .int .i64 o.off] := by rw [← e2, ← k2]; exact Blk.new _ _ _
  obtain ⟨W3, e3⟩ : ∃ W, W2.alloc (.cells #[.int .i64 o.id, .int .i64 o.client, .int .i64 s, .int .i64 1, .int .i64 0, .bool o.peg, .int .i64 o.off] 54) = W := ⟨_, rfl⟩
  have D3 : Upd [] [] W2 W3 := by rw [← e3]; exact (Upd.refl _ _).alloc _
  obtain ⟨n3, k3⟩ : ∃ n, W2.heap.size = n := ⟨_, rfl⟩
  have N3 : Blk W3 n3 54 #[.int .i64 o.id, .int .i64 o.client, .int .i64 s, .int .i64 1, .int .i64 0, .bool o.peg, .int .i64 o.off] := by rw [← e3, ← k3]; exact Blk.new _ _ _
  obtain ⟨W4, e4⟩ : ∃ W, W3.alloc (.cells #[.int .i64 o.id, .int .i64 o.client, .int .i64 s, .int .i64 1, .int .i64 1073741825, .bool o.peg, .int .i64 o.off] 54) = W := ⟨_, rfl⟩
  have D4 : Upd [] [] W3 W4 := by rw [← e4]; exact (Upd.refl _ _).alloc _
  obtain ⟨n4, k4⟩ : ∃ n, W3.heap.size = n := ⟨_, rfl⟩
  have N4 : Blk W4 n4 54 #[.int .i64 o.id, .int .i64 o.client, .int .i64 s, .int .i64 1, .int .i64 1073741825, .bool o.peg, .int .i64 o.off] := by rw [← e4, ← k4]; exact Blk.new _ _ _
  obtain ⟨W5, e5⟩ : ∃ W, W4.alloc (.cells #[.int .i64 0, .int .i64 o.client, .int .i64 s, .int .i64 1, .int .i64 1, .bool o.peg, .int .i64 o.off] 54) = W := ⟨_, rfl⟩
  have D5 : Upd [] [] W4 W5 := by rw [← e5]; exact (Upd.refl _ _).alloc _
  obtain ⟨n5, k5⟩ : ∃ n, W4.heap.size = n := ⟨_, rfl⟩
  have N5 : Blk W5 n5 54 #[.int .i64 0, .int .i64 o.client, .int .i64 s, .int .i64 1, .int .i64 1, .bool o.peg, .int .i64 o.off] := by rw [← e5, ← k5]; exact Blk.new _ _ _
  obtain ⟨⟨p0, p1, p2, p3, p4, p5, p6⟩, -⟩ := (hB3.upd D0 (by simp)).c7
  obtain ⟨⟨p0, p1, p2, p3, p4, p5, p6⟩, -⟩ := (N1).c7
  obtain ⟨⟨p0, p1, p2, p3, p4, p5, p6⟩, -⟩ := ((N1.upd D2 (by simp))).c7
  obtain ⟨⟨p0, p1, p2, p3, p4, p5, p6⟩, -⟩ := (N3).c7
  obtain ⟨⟨p0, p1, p2, p3, p4, p5, p6⟩, -⟩ := ((N3.upd D4 (by simp))).c7
  have F0 := (((((N0.upd D1 (by simp)).upd D2 (by simp)).upd D3 (by simp)).upd D4 (by simp)).upd D5 (by simp))
  have F1 := ((((N1.upd D2 (by simp)).upd D3 (by simp)).upd D4 (by simp)).upd D5 (by simp))
  have F2 := (((N2.upd D3 (by simp)).upd D4 (by simp)).upd D5 (by simp))
  have F3 := ((N3.upd D4 (by simp)).upd D5 (by simp))
  have F4 := (N4.upd D5 (by simp))
  have F5 := N5
  have D := ((((D0.trans D1).trans D2).trans D3).trans D4).trans D5
  have h4 := h3.upd0 D
  have U4 := U3.trans D
  have R4 := ho.upd D (by simp)
  have hk5 : w3.heap.size ≤ n5 := by have := D0.size; have := D1.size; have := D2.size; have := D3.size; have := D4.size; omega
  clear N0 N1 N2 N3 N4 N5 hB3 B3 D0 D1 D2 D3 D4 D5
  have KK : n5 < W5.heap.size := F5.lt
  obtain ⟨⟨p0, p1, p2, p3, p4, p5, p6⟩, -⟩ := (F0).c7
  have C0 : ∀ W, SideS W g s bo br R L → Calls Try.prog 30 #[.pointer (some ⟨g, 0, none⟩), .agg #[.int .i64 o.id, .int .i64 o.client, .int .i64 (3 - s), .int .i64 o.price, .int .i64 o.qty, .bool o.peg, .int .i64 o.off]] W fun e w' => e = .returned (.int .i64 1) ∧ Upd [] [] W w' := fun W hW => sidePut_arg W g bo br s R L hW ⟨o.id, o.client, (3 - s), o.price, o.qty, o.peg, o.off⟩ (decide_eq_false (by simp only; omega))
  have C1 : ∀ W, SideS W g s bo br R L → Calls Try.prog 30 #[.pointer (some ⟨g, 0, none⟩), .agg #[.int .i64 o.id, .int .i64 o.client, .int .i64 s, .int .i64 0, .int .i64 o.qty, .bool o.peg, .int .i64 o.off]] W fun e w' => e = .returned (.int .i64 1) ∧ Upd [] [] W w' := fun W hW => sidePut_arg W g bo br s R L hW ⟨o.id, o.client, s, 0, o.qty, o.peg, o.off⟩ (decide_eq_false (by simp only; omega))
  have C2 : ∀ W, SideS W g s bo br R L → Calls Try.prog 30 #[.pointer (some ⟨g, 0, none⟩), .agg #[.int .i64 o.id, .int .i64 o.client, .int .i64 s, .int .i64 1073741825, .int .i64 o.qty, .bool o.peg, .int .i64 o.off]] W fun e w' => e = .returned (.int .i64 1) ∧ Upd [] [] W w' := fun W hW => sidePut_arg W g bo br s R L hW ⟨o.id, o.client, s, 1073741825, o.qty, o.peg, o.off⟩ (decide_eq_false (by simp only; omega))
  have C3 : ∀ W, SideS W g s bo br R L → Calls Try.prog 30 #[.pointer (some ⟨g, 0, none⟩), .agg #[.int .i64 o.id, .int .i64 o.client, .int .i64 s, .int .i64 1, .int .i64 0, .bool o.peg, .int .i64 o.off]] W fun e w' => e = .returned (.int .i64 1) ∧ Upd [] [] W w' := fun W hW => sidePut_arg W g bo br s R L hW ⟨o.id, o.client, s, 1, 0, o.peg, o.off⟩ (decide_eq_false (by simp only; omega))
  have C4 : ∀ W, SideS W g s bo br R L → Calls Try.prog 30 #[.pointer (some ⟨g, 0, none⟩), .agg #[.int .i64 o.id, .int .i64 o.client, .int .i64 s, .int .i64 1, .int .i64 1073741825, .bool o.peg, .int .i64 o.off]] W fun e w' => e = .returned (.int .i64 1) ∧ Upd [] [] W w' := fun W hW => sidePut_arg W g bo br s R L hW ⟨o.id, o.client, s, 1, 1073741825, o.peg, o.off⟩ (decide_eq_false (by simp only; omega))
  have C5 : ∀ W, SideS W g s bo br R L → Calls Try.prog 30 #[.pointer (some ⟨g, 0, none⟩), .agg #[.int .i64 0, .int .i64 o.client, .int .i64 s, .int .i64 1, .int .i64 1, .bool o.peg, .int .i64 o.off]] W fun e w' => e = .returned (.int .i64 1) ∧ Upd [] [] W w' := fun W hW => sidePut_arg W g bo br s R L hW ⟨0, o.client, s, 1, 1, o.peg, o.off⟩ (decide_eq_false (by simp only; omega))
  repeat' ((fail_if_success (with_reducible refine stop_append rfl ?_)); (fail_if_success (with_reducible refine stop_copy rfl ?_)); first | go_values | go_skip | go_guarded | go_step | go_upon | (simp only []; go_at_K))
  ((with_reducible refine (C0 _ h4).mono ?_); rintro e v0 ⟨rfl, q0⟩)
  replace h4 := h4.upd0 q0
  replace U4 := U4.trans q0
  replace R4 := R4.upd q0 (by simp)
  replace KK := Nat.lt_of_lt_of_le KK q0.size
  replace F1 := F1.upd q0 (by simp)
  replace F2 := F2.upd q0 (by simp)
  replace F3 := F3.upd q0 (by simp)
  replace F4 := F4.upd q0 (by simp)
  replace F5 := F5.upd q0 (by simp)
  clear q0
  obtain ⟨⟨p0, p1, p2, p3, p4, p5, p6⟩, -⟩ := (F1).c7
  repeat' ((fail_if_success (with_reducible refine stop_append rfl ?_)); (fail_if_success (with_reducible refine stop_copy rfl ?_)); first | go_values | go_skip | go_guarded | go_step | go_upon | (simp only []; go_at_K))
  ((with_reducible refine (C1 _ h4).mono ?_); rintro e v1 ⟨rfl, q1⟩)
  replace h4 := h4.upd0 q1
  replace U4 := U4.trans q1
  replace R4 := R4.upd q1 (by simp)
  replace KK := Nat.lt_of_lt_of_le KK q1.size
  replace F2 := F2.upd q1 (by simp)
  replace F3 := F3.upd q1 (by simp)
  replace F4 := F4.upd q1 (by simp)
  replace F5 := F5.upd q1 (by simp)
  clear q1
  obtain ⟨⟨p0, p1, p2, p3, p4, p5, p6⟩, -⟩ := (F2).c7
  repeat' ((fail_if_success (with_reducible refine stop_append rfl ?_)); (fail_if_success (with_reducible refine stop_copy rfl ?_)); first | go_values | go_skip | go_guarded | go_step | go_upon | (simp only []; go_at_K))
  ((with_reducible refine (C2 _ h4).mono ?_); rintro e v2 ⟨rfl, q2⟩)
  replace h4 := h4.upd0 q2
  replace U4 := U4.trans q2
  replace R4 := R4.upd q2 (by simp)
  replace KK := Nat.lt_of_lt_of_le KK q2.size
  replace F3 := F3.upd q2 (by simp)
  replace F4 := F4.upd q2 (by simp)
  replace F5 := F5.upd q2 (by simp)
  clear q2
  obtain ⟨⟨p0, p1, p2, p3, p4, p5, p6⟩, -⟩ := (F3).c7
  repeat' ((fail_if_success (with_reducible refine stop_append rfl ?_)); (fail_if_success (with_reducible refine stop_copy rfl ?_)); first | go_values | go_skip | go_guarded | go_step | go_upon | (simp only []; go_at_K))
  ((with_reducible refine (C3 _ h4).mono ?_); rintro e v3 ⟨rfl, q3⟩)
  replace h4 := h4.upd0 q3
  replace U4 := U4.trans q3
  replace R4 := R4.upd q3 (by simp)
  replace KK := Nat.lt_of_lt_of_le KK q3.size
  replace F4 := F4.upd q3 (by simp)
  replace F5 := F5.upd q3 (by simp)
  clear q3
  obtain ⟨⟨p0, p1, p2, p3, p4, p5, p6⟩, -⟩ := (F4).c7
  repeat' ((fail_if_success (with_reducible refine stop_append rfl ?_)); (fail_if_success (with_reducible refine stop_copy rfl ?_)); first | go_values | go_skip | go_guarded | go_step | go_upon | (simp only []; go_at_K))
  ((with_reducible refine (C4 _ h4).mono ?_); rintro e v4 ⟨rfl, q4⟩)
  replace h4 := h4.upd0 q4
  replace U4 := U4.trans q4
  replace R4 := R4.upd q4 (by simp)
  replace KK := Nat.lt_of_lt_of_le KK q4.size
  replace F5 := F5.upd q4 (by simp)
  clear q4
  obtain ⟨⟨p0, p1, p2, p3, p4, p5, p6⟩, -⟩ := (F5).c7
  repeat' ((fail_if_success (with_reducible refine stop_append rfl ?_)); (fail_if_success (with_reducible refine stop_copy rfl ?_)); first | go_values | go_skip | go_guarded | go_step | go_upon | (simp only []; go_at_K))
  ((with_reducible refine (C5 _ h4).mono ?_); rintro e v5 ⟨rfl, q5⟩)
  replace h4 := h4.upd0 q5
  replace U4 := U4.trans q5
  replace R4 := R4.upd q5 (by simp)
  replace KK := Nat.lt_of_lt_of_le KK q5.size
  replace F5 := F5.upd q5 (by simp)
  clear q5
  have hlt3 : ∀ k ∈ fpS g bo br R, k < w3.heap.size := h3.lt
  obtain ⟨v6, e6⟩ : ∃ W, v5.setCell ⟨n5, 0, none⟩ (.int .i64 1) = W := ⟨_, rfl⟩
  have Q6 : Upd [n5] [n5] v5 v6 := by rw [← e6]; exact (Upd.refl _ _).setCell (.inl (by simp)) _
  have h5 := h4.upd Q6 (fun k hk => by have := hlt3 k hk; simp; omega)
  have U5 : Upd [] [] w v6 := by rw [← e6]; exact U4.setCell (.inr (Nat.le_trans U3.size hk5)) _
  have F6 : Blk v6 n5 54 #[.int .i64 1, .int .i64 o.client, .int .i64 s, .int .i64 1, .int .i64 1, .bool o.peg, .int .i64 o.off] := by
    rw [← e6]; exact F5.set_ 0 _
  obtain ⟨⟨p0, p1, p2, p3, p4, p5, p6⟩, f0, f1, f2, f3, f4, f5, f6⟩ := F5.c7
  clear h4 U4 F5
  repeat' ((fail_if_success (with_reducible refine stop_append rfl ?_)); (fail_if_success (with_reducible refine stop_copy rfl ?_)); first | go_values | go_skip | go_guarded | go_step | go_upon | (simp only []; go_at_K))
  ((with_reducible refine (sideList v6 g bo br s R L h5).mono ?_); rintro e v7 ⟨A7, c7, rfl, ho7, q7⟩)
  have h7 := h5.upd0 q7
  have U7 : Upd [] [] w v7 := U5.trans (q7.gives (by simp))
  have F7 := F6.upd q7 (by simp)
  have R6 := R4.upd Q6 (fun k hk => by have := ho.lt k hk; simp; omega)
  have R7 := R6.upd q7 (by simp)
  clear h5 U5 F6 R4 R6 Q6 q7 p0 p1 p2 p3 p4 p5 p6 f0 f1 f2 f3 f4 f5 f6 e6 hlt3 hw3 h3 U3 ho
  have E := neSelfOrd
  repeat' ((fail_if_success (with_reducible refine stop_append rfl ?_)); (fail_if_success (with_reducible refine stop_copy rfl ?_)); first | go_values | go_skip | go_guarded | go_step | go_upon | (simp only []; go_at_K))
  go_loopw [24] (fun v24 wr => ∃ i : Nat, i ≤ L.length ∧ v24 = .int .i64 (i : Int) ∧ Upd [] [] v7 wr) (fun v24 _ => L.length - (intOf v24).toNat)
  case atStart => exact ⟨0, by omega, rfl, Upd.refl _ _⟩
  case round =>
    obtain ⟨i, hi, rfl, U⟩ := hrel
    by_cases hil : i < L.length
    · have hlt' : (i : Int) < (L.length : Int) := by omega
      have ra : RdS Ord.cells 7 wr A3 L.length L := ⟨rfl, R7.rd.upd U (by simp)⟩
      have rb : RdS Ord.cells 7 wr A7 L.length L := ⟨rfl, ho7.rd.upd U (by simp)⟩
      obtain ⟨ad, rfl, a0, a1, a2, a3, a4, a5, a6⟩ := ord_at ra hil
      obtain ⟨ad', rfl, b0, b1, b2, b3, b4', b5, b6⟩ := ord_at rb hil
      have hw1 : IntKind.i64.wrap ((i : Int) + 1) = (i : Int) + 1 := by rw [IntKind.wrap_i64]; have := h7.sd.len; omega
      generalize L[i] = x at *
      clear ra rb R7 ho7 h7 HL F7
      repeat' ((fail_if_success (with_reducible refine stop_append rfl ?_)); (fail_if_success (with_reducible refine stop_copy rfl ?_)); first | go_values | go_skip | go_guarded | go_step | go_upon | (simp only []; go_at_K))
      go_quiet (fail)
      repeat' ((fail_if_success (with_reducible refine stop_append rfl ?_)); (fail_if_success (with_reducible refine stop_copy rfl ?_)); first | go_values | go_skip | go_guarded | go_step | go_upon | (simp only []; go_at_K))
      exact ⟨⟨i + 1, by omega, by simp, U.drewN _⟩, by simp [intOf]; omega⟩
    · obtain rfl : i = L.length := by omega
      have hlt' : ¬ ((L.length : Int) < (L.length : Int)) := by omega
      have h8 := h7.upd0 U
      have U8 := U7.trans U
      have F8 := F7.upd U (by simp)
      have hmay : mayO s ⟨1, o.client, s, 1, 1, o.peg, o.off⟩ = true := by simp [mayO]
      have hwf1 : (Lit.int .i64 1).wf = true := rfl
      have Z0 := fun W => sideNew_no W 0 (.inl rfl)
      have Z3 := fun W => sideNew_no W 3 (.inr rfl)
      obtain ⟨⟨p0, p1, p2, p3, p4, p5, p6⟩, -⟩ := F8.c7
      rcases Nat.eq_zero_or_pos L.length with hz | hz
      · have hL0 : L = [] := List.length_eq_zero_iff.1 hz
        have hf0 : findO 1 L = none := by rw [hL0]; rfl
        have C : ∀ W, SideS W g s bo br R L → Calls Try.prog 30 #[.pointer (some ⟨g, 0, none⟩), .agg #[.int .i64 1, .int .i64 o.client, .int .i64 s, .int .i64 1, .int .i64 1, .bool o.peg, .int .i64 o.off]] W (Put20 W g bo br s R L ⟨1, o.client, s, 1, 1, o.peg, o.off⟩) := fun W hW => sidePut W g bo br s R L hW ⟨1, o.client, s, 1, 1, o.peg, o.off⟩ hmay hf0 hwf1 (by omega)
        have hzi : ¬ ((0 : Int) < (L.length : Int)) := by omega
        clear R7 ho7 h7 F7 hz hL0 hf0
        repeat' ((fail_if_success (with_reducible refine stop_append rfl ?_)); (fail_if_success (with_reducible refine stop_copy rfl ?_)); first | go_values | go_skip | go_guarded | go_step | go_upon | (simp only []; go_at_K))
        ((with_reducible refine (C _ h8).mono ?_); rintro e w9 ⟨R9, rfl, -, q9⟩)
        have U9 : Upd [] [] w w9 := ⟨q9.os.trans U8.os, q9.tape.trans U8.tape, q9.output.trans U8.output, Nat.le_trans U8.size q9.size,
          fun k hk _ => (q9.block k (Nat.lt_of_lt_of_le hk U8.size) fun hm => by have := hfr.out k hm; omega).trans (U8.block k hk (by simp)), fun k hk => by cases hk⟩
        repeat' ((fail_if_success (with_reducible refine stop_append rfl ?_)); (fail_if_success (with_reducible refine stop_copy rfl ?_)); first | go_values | go_skip | go_guarded | go_step | go_upon | (simp only []; go_at_K))
        ((with_reducible refine (Z0 _).mono ?_); rintro e w9 ⟨rfl, rfl⟩)
        repeat' ((fail_if_success (with_reducible refine stop_append rfl ?_)); (fail_if_success (with_reducible refine stop_copy rfl ?_)); first | go_values | go_skip | go_guarded | go_step | go_upon | (simp only []; go_at_K))
        ((with_reducible refine (Z3 _).mono ?_); rintro e w9 ⟨rfl, rfl⟩)
        repeat' ((fail_if_success (with_reducible refine stop_append rfl ?_)); (fail_if_success (with_reducible refine stop_copy rfl ?_)); first | go_values | go_skip | go_guarded | go_step | go_upon | (simp only []; go_at_K))
        go_ret
        exact ⟨rfl, U9⟩
      · have hf1 : (findO 1 L).isSome = true := by
          rw [← HL.out]
          exact fillL_one s b (by omega)
        have C : ∀ W, SideS W g s bo br R L → Calls Try.prog 30 #[.pointer (some ⟨g, 0, none⟩), .agg #[.int .i64 1, .int .i64 o.client, .int .i64 s, .int .i64 1, .int .i64 1, .bool o.peg, .int .i64 o.off]] W fun e w' => e = .returned (.int .i64 7) ∧ Upd [] [] W w' := fun W hW => sidePut_there W g bo br s R L hW ⟨1, o.client, s, 1, 1, o.peg, o.off⟩ hmay hf1 hwf1
        have hzi : (0 : Int) < (L.length : Int) := by omega
        clear R7 ho7 h7 F7
        repeat' ((fail_if_success (with_reducible refine stop_append rfl ?_)); (fail_if_success (with_reducible refine stop_copy rfl ?_)); first | go_values | go_skip | go_guarded | go_step | go_upon | (simp only []; go_at_K))
        ((with_reducible refine (C _ h8).mono ?_); rintro e w9 ⟨rfl, q9⟩)
        repeat' ((fail_if_success (with_reducible refine stop_append rfl ?_)); (fail_if_success (with_reducible refine stop_copy rfl ?_)); first | go_values | go_skip | go_guarded | go_step | go_upon | (simp only []; go_at_K))
        ((with_reducible refine (Z0 _).mono ?_); rintro e w9 ⟨rfl, rfl⟩)
        repeat' ((fail_if_success (with_reducible refine stop_append rfl ?_)); (fail_if_success (with_reducible refine stop_copy rfl ?_)); first | go_values | go_skip | go_guarded | go_step | go_upon | (simp only []; go_at_K))
        ((with_reducible refine (Z3 _).mono ?_); rintro e w9 ⟨rfl, rfl⟩)
        repeat' ((fail_if_success (with_reducible refine stop_append rfl ?_)); (fail_if_success (with_reducible refine stop_copy rfl ?_)); first | go_values | go_skip | go_guarded | go_step | go_upon | (simp only []; go_at_K))
        go_ret
        exact ⟨rfl, U8.trans q9⟩
end Go.Proofs.Ytlkgmedkphcjpaa
