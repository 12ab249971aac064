/- A side that is nil; agiolaw20.SideNobody. -/
import Derived.Test.YtlkgmedkphcjpaaSideD
namespace Go.Proofs.Ytlkgmedkphcjpaa
open Go.RowKit Agio Go.Maps

set_option maxRecDepth 100000 in
set_option maxHeartbeats 1000000 in
theorem nilGet (w : World) (id : Int) : Calls Try.prog 45 #[.pointer none, .int .i64 id] w fun e w' => e = .returned (.tuple #[ordZ, .bool false]) ∧ Upd [] [] w w' := by
  have U0 : Upd [] [] w (w.alloc (.cells #[.int .i64 0, .int .i64 0, .int .i64 0, .int .i64 0, .int .i64 0, .bool false, .int .i64 0] 54)) := (Upd.refl _ _).alloc _
  have hB0 := Blk.new w 54 #[.int .i64 0, .int .i64 0, .int .i64 0, .int .i64 0, .int .i64 0, .bool false, .int .i64 0]
  obtain ⟨b4, hb4⟩ : ∃ b4, w.heap.size = b4 := ⟨_, rfl⟩
  have hlt : w.heap.size ≤ b4 := by omega
  rw [hb4] at hB0
  rw [ordZ]
  obtain ⟨⟨p0, p1, p2, p3, p4, p5, p6⟩, f0, f1, f2, f3, f4, f5, f6⟩ := hB0.c7
  go_enter Try.func45, Try.ntmps45
  repeat' ((fail_if_success (with_reducible refine stop_append rfl ?_)); (fail_if_success (with_reducible refine stop_copy rfl ?_)); first | go_values | go_skip | go_guarded | go_step | go_upon | (simp only []; go_at_K))
  refine bodyPost_ret (v := .tuple #[.agg #[.int .i64 0, .int .i64 0, .int .i64 0, .int .i64 0, .int .i64 0, .bool false, .int .i64 0], .bool false]) ?_ rfl ⟨rfl, U0⟩
  simp [results, Try.results45, go_sem, p0, p1, p2, p3, p4, p5, p6]

set_option maxRecDepth 100000 in
set_option maxHeartbeats 1000000 in
theorem nilDrop (w : World) (id : Int) : Calls Try.prog 36 #[.pointer none, .int .i64 id] w fun e w' => e = .returned (.tuple #[ordZ, .bool false]) ∧ Upd [] [] w w' := by
  have U0 : Upd [] [] w (w.alloc (.cells #[.int .i64 0, .int .i64 0, .int .i64 0, .int .i64 0, .int .i64 0, .bool false, .int .i64 0] 54)) := (Upd.refl _ _).alloc _
  have hB0 := Blk.new w 54 #[.int .i64 0, .int .i64 0, .int .i64 0, .int .i64 0, .int .i64 0, .bool false, .int .i64 0]
  obtain ⟨b4, hb4⟩ : ∃ b4, w.heap.size = b4 := ⟨_, rfl⟩
  have hlt : w.heap.size ≤ b4 := by omega
  have C := fun w => nilGet w id
  rw [ordZ] at C ⊢
  rw [hb4] at hB0
  go_enter Try.func36, Try.ntmps36
  repeat' ((fail_if_success (with_reducible refine stop_append rfl ?_)); (fail_if_success (with_reducible refine stop_copy rfl ?_)); first | go_values | go_skip | go_guarded | go_step | go_upon | (simp only []; go_at_K))
  ((with_reducible refine (C _).mono ?_); rintro e w1 ⟨rfl, hu1⟩)
  clear C
  have hB1 := (hB0.upd hu1 (by simp)).alloc (.cells #[.int .i64 0, .int .i64 0, .int .i64 0, .int .i64 0, .int .i64 0, .bool false, .int .i64 0] 54)
  have U2 : Upd [] [] w (w1.alloc (.cells #[.int .i64 0, .int .i64 0, .int .i64 0, .int .i64 0, .int .i64 0, .bool false, .int .i64 0] 54)) := (U0.trans hu1).alloc _
  obtain ⟨⟨p0, p1, p2, p3, p4, p5, p6⟩, f0, f1, f2, f3, f4, f5, f6⟩ := hB1.c7
  obtain ⟨⟨p0', p1', p2', p3', p4', p5', p6'⟩, f0', f1', f2', f3', f4', f5', f6'⟩ := (hB0.upd hu1 (by simp)).c7
  repeat' ((fail_if_success (with_reducible refine stop_append rfl ?_)); (fail_if_success (with_reducible refine stop_copy rfl ?_)); first | go_values | go_skip | go_guarded | go_step | go_upon | (simp only []; go_at_K))
  have N := rowSet [.int .i64 0, .int .i64 0, .int .i64 0, .int .i64 0, .int .i64 0, .bool false, .int .i64 0] hB1 rfl U2 (.inr hlt)
  simp only [setRow] at N
  generalize World.setCell _ ⟨b4, 6, none⟩ _ = W5 at N ⊢
  obtain ⟨hN, hU5⟩ := N
  clear p0 p1 p2 p3 p4 p5 p6 f0 f1 f2 f3 f4 f5 f6 p0' p1' p2' p3' p4' p5' p6' f0' f1' f2' f3' f4' f5' f6' hB1
  obtain ⟨⟨p0, p1, p2, p3, p4, p5, p6⟩, -⟩ := hN.c7
  refine bodyPost_ret (v := .tuple #[.agg #[.int .i64 0, .int .i64 0, .int .i64 0, .int .i64 0, .int .i64 0, .bool false, .int .i64 0], .bool false]) ?_ rfl ⟨rfl, hU5⟩
  simp [results, Try.results36, go_sem, p0, p1, p2, p3, p4, p5, p6]

set_option maxRecDepth 100000 in
theorem nilMay (w : World) (o : Ord) : Calls Try.prog 67 #[.pointer none, o.val] w fun e w' => e = .returned (.bool false) ∧ Upd [] [] w w' := by
  have U : Upd [] [] w (w.alloc (.cells #[.int .i64 o.id, .int .i64 o.client, .int .i64 o.side, .int .i64 o.price, .int .i64 o.qty, .bool o.peg, .int .i64 o.off] 54)) := (Upd.refl _ _).alloc _
  rw [Ord.val]
  go_enter Try.func67, Try.ntmps67
  repeat' ((fail_if_success (with_reducible refine stop_append rfl ?_)); (fail_if_success (with_reducible refine stop_copy rfl ?_)); first | go_values | go_skip | go_guarded | go_step | go_upon | (simp only []; go_at_K))
  go_quiet (fail)
  repeat' ((fail_if_success (with_reducible refine stop_append rfl ?_)); (fail_if_success (with_reducible refine stop_copy rfl ?_)); first | go_values | go_skip | go_guarded | go_step | go_upon | (simp only []; go_at_K))
  go_ret
  exact ⟨rfl, U.drewN _⟩
set_option maxRecDepth 100000 in
theorem nilPut (w : World) (o : Ord) : Calls Try.prog 30 #[.pointer none, o.val] w fun e w' => e = .returned (.int .i64 1) ∧ Upd [] [] w w' := by
  have U : Upd [] [] w (w.alloc (.cells #[.int .i64 o.id, .int .i64 o.client, .int .i64 o.side, .int .i64 o.price, .int .i64 o.qty, .bool o.peg, .int .i64 o.off] 54)) := (Upd.refl _ _).alloc _
  have C := fun w => nilMay w o
  rw [Ord.val] at C ⊢
  go_enter Try.func30, Try.ntmps30
  repeat' ((fail_if_success (with_reducible refine stop_append rfl ?_)); (fail_if_success (with_reducible refine stop_copy rfl ?_)); first | go_values | go_skip | go_guarded | go_step | go_upon | (simp only []; go_at_K))
  ((with_reducible refine (C _).mono ?_); rintro e w1 ⟨rfl, hu1⟩)
  repeat' ((fail_if_success (with_reducible refine stop_append rfl ?_)); (fail_if_success (with_reducible refine stop_copy rfl ?_)); first | go_values | go_skip | go_guarded | go_step | go_upon | (simp only []; go_at_K))
  go_ret
  exact ⟨rfl, U.trans hu1⟩
set_option maxRecDepth 100000 in
theorem nilCut (w : World) (id q : Int) : Calls Try.prog 35 #[.pointer none, .int .i64 id, .int .i64 q] w fun e w' => e = .returned (.bool false) ∧ Upd [] [] w w' := by
  have C := fun w => nilGet w id
  rw [ordZ] at C
  go_enter Try.func35, Try.ntmps35
  repeat' ((fail_if_success (with_reducible refine stop_append rfl ?_)); (fail_if_success (with_reducible refine stop_copy rfl ?_)); first | go_values | go_skip | go_guarded | go_step | go_upon | (simp only []; go_at_K))
  ((with_reducible refine (C _).mono ?_); rintro e w1 ⟨rfl, hu1⟩)
  clear C
  repeat' ((fail_if_success (with_reducible refine stop_append rfl ?_)); (fail_if_success (with_reducible refine stop_copy rfl ?_)); first | go_values | go_skip | go_guarded | go_step | go_upon | (simp only []; go_at_K))
  go_quiet (fail)
  repeat' ((fail_if_success (with_reducible refine stop_append rfl ?_)); (fail_if_success (with_reducible refine stop_copy rfl ?_)); first | go_values | go_skip | go_guarded | go_step | go_upon | (simp only []; go_at_K))
  go_ret
  exact ⟨rfl, (hu1.alloc _).drewN _⟩
set_option maxRecDepth 100000 in
theorem nilPrices (w : World) : Calls Try.prog 32 #[.pointer none] w fun e w' => e = .returned (.slice none 0 0) ∧ w = w' := by
  go_enter Try.func32, Try.ntmps32
  repeat' ((fail_if_success (with_reducible refine stop_append rfl ?_)); (fail_if_success (with_reducible refine stop_copy rfl ?_)); first | go_values | go_skip | go_guarded | go_step | go_upon | (simp only []; go_at_K))
  go_ret
  exact ⟨rfl, rfl⟩
set_option maxRecDepth 100000 in
theorem nilBest (w : World) : Calls Try.prog 29 #[.pointer none] w fun e w' => e = .returned (.tuple #[.int .i64 0, .bool false]) ∧ w = w' := by
  go_enter Try.func29, Try.ntmps29
  repeat' ((fail_if_success (with_reducible refine stop_append rfl ?_)); (fail_if_success (with_reducible refine stop_copy rfl ?_)); first | go_values | go_skip | go_guarded | go_step | go_upon | (simp only []; go_at_K))
  ((with_reducible refine (nilPrices _).mono ?_); rintro e w1 ⟨rfl, rfl⟩)
  repeat' ((fail_if_success (with_reducible refine stop_append rfl ?_)); (fail_if_success (with_reducible refine stop_copy rfl ?_)); first | go_values | go_skip | go_guarded | go_step | go_upon | (simp only []; go_at_K))
  go_ret2
  exact ⟨rfl, rfl⟩
set_option maxRecDepth 100000 in
theorem nilAt (w : World) (p : Int) : Calls Try.prog 33 #[.pointer none, .int .i64 p] w fun e w' => e = .returned (.int .i64 0) ∧ w = w' := by
  go_enter Try.func33, Try.ntmps33
  repeat' ((fail_if_success (with_reducible refine stop_append rfl ?_)); (fail_if_success (with_reducible refine stop_copy rfl ?_)); first | go_values | go_skip | go_guarded | go_step | go_upon | (simp only []; go_at_K))
  go_ret
  exact ⟨rfl, rfl⟩
set_option maxRecDepth 100000 in
theorem nilLen (w : World) : Calls Try.prog 34 #[.pointer none] w fun e w' => e = .returned (.int .i64 0) ∧ w = w' := by
  go_enter Try.func34, Try.ntmps34
  repeat' ((fail_if_success (with_reducible refine stop_append rfl ?_)); (fail_if_success (with_reducible refine stop_copy rfl ?_)); first | go_values | go_skip | go_guarded | go_step | go_upon | (simp only []; go_at_K))
  go_ret
  exact ⟨rfl, rfl⟩
set_option maxRecDepth 100000 in
theorem nilList (w : World) : Calls Try.prog 28 #[.pointer none] w fun e w' => e = .returned (.slice none 0 0) ∧ w = w' := by
  go_enter Try.func28, Try.ntmps28
  repeat' ((fail_if_success (with_reducible refine stop_append rfl ?_)); (fail_if_success (with_reducible refine stop_copy rfl ?_)); first | go_values | go_skip | go_guarded | go_step | go_upon | (simp only []; go_at_K))
  ((with_reducible refine (nilPrices _).mono ?_); rintro e w1 ⟨rfl, rfl⟩)
  repeat' ((fail_if_success (with_reducible refine stop_append rfl ?_)); (fail_if_success (with_reducible refine stop_copy rfl ?_)); first | go_values | go_skip | go_guarded | go_step | go_upon | (simp only []; go_at_K))
  go_loopw [3, 11] (fun v3 v11 wr => v3 = .slice none 0 0 ∧ v11 = .int .i64 0 ∧ w = wr) (fun _ _ _ => 0)
  case atStart => exact ⟨rfl, rfl, rfl⟩
  case round =>
    obtain ⟨rfl, rfl, rfl⟩ := hrel
    repeat' ((fail_if_success (with_reducible refine stop_append rfl ?_)); (fail_if_success (with_reducible refine stop_copy rfl ?_)); first | go_values | go_skip | go_guarded | go_step | go_upon | (simp only []; go_at_K))
    go_ret
    exact ⟨rfl, rfl⟩

set_option maxRecDepth 100000 in
set_option maxHeartbeats 2000000 in
theorem sideNobody_any (w : World) (o : Ord) : Calls Try.prog 9 #[o.val] w fun e w' => e = .returned (.bool true) ∧ Upd [] [] w w' := by
  have U0 : Upd [] [] w (w.alloc (.cells #[.int .i64 o.id, .int .i64 o.client, .int .i64 o.side, .int .i64 o.price, .int .i64 o.qty, .bool o.peg, .int .i64 o.off] 54)) := (Upd.refl _ _).alloc _
  have hB := Blk.new w 54 #[.int .i64 o.id, .int .i64 o.client, .int .i64 o.side, .int .i64 o.price, .int .i64 o.qty, .bool o.peg, .int .i64 o.off]
  obtain ⟨b4, hb4⟩ : ∃ b4, w.heap.size = b4 := ⟨_, rfl⟩
  have P := fun w => nilPut w o
  have D := fun w => nilDrop w o.id
  have G := fun w => nilGet w o.id
  rw [ordZ] at D G
  rw [Ord.val] at P ⊢
  rw [hb4] at hB
  go_enter Try.func9, Try.ntmps9
  repeat' ((fail_if_success (with_reducible refine stop_append rfl ?_)); (fail_if_success (with_reducible refine stop_copy rfl ?_)); first | go_values | go_skip | go_guarded | go_step | go_upon | (simp only []; go_at_K))
  ((with_reducible refine (awake20 _).mono ?_); rintro e w1 ⟨rfl, hu1⟩)
  have hB1 := hB.upd hu1 (by simp)
  have U1 := U0.trans hu1
  clear hB U0 hu1
  obtain ⟨⟨p0, p1, p2, p3, p4, p5, p6⟩, -⟩ := hB1.c7
  repeat' ((fail_if_success (with_reducible refine stop_append rfl ?_)); (fail_if_success (with_reducible refine stop_copy rfl ?_)); first | go_values | go_skip | go_guarded | go_step | go_upon | (simp only []; go_at_K))
  ((with_reducible refine (D _).mono ?_); rintro e w2 ⟨rfl, hu2⟩)
  have hB2 := (hB1.upd hu2 (by simp)).alloc (.cells #[.int .i64 0, .int .i64 0, .int .i64 0, .int .i64 0, .int .i64 0, .bool false, .int .i64 0] 54)
  have U2 : Upd [] [] w (w2.alloc (.cells #[.int .i64 0, .int .i64 0, .int .i64 0, .int .i64 0, .int .i64 0, .bool false, .int .i64 0] 54)) := (U1.trans hu2).alloc _
  clear p0 p1 p2 p3 p4 p5 p6 hB1 U1 hu2
  obtain ⟨⟨p0, p1, p2, p3, p4, p5, p6⟩, -⟩ := hB2.c7
  repeat' ((fail_if_success (with_reducible refine stop_append rfl ?_)); (fail_if_success (with_reducible refine stop_copy rfl ?_)); first | go_values | go_skip | go_guarded | go_step | go_upon | (simp only []; go_at_K))
  ((with_reducible refine (G _).mono ?_); rintro e w3 ⟨rfl, hu3⟩)
  have hB3 := (hB2.upd hu3 (by simp)).alloc (.cells #[.int .i64 0, .int .i64 0, .int .i64 0, .int .i64 0, .int .i64 0, .bool false, .int .i64 0] 54)
  have U3 : Upd [] [] w (w3.alloc (.cells #[.int .i64 0, .int .i64 0, .int .i64 0, .int .i64 0, .int .i64 0, .bool false, .int .i64 0] 54)) := (U2.trans hu3).alloc _
  clear p0 p1 p2 p3 p4 p5 p6 hB2 U2 hu3 G D
  obtain ⟨⟨p0, p1, p2, p3, p4, p5, p6⟩, -⟩ := hB3.c7
  repeat' ((fail_if_success (with_reducible refine stop_append rfl ?_)); (fail_if_success (with_reducible refine stop_copy rfl ?_)); first | go_values | go_skip | go_guarded | go_step | go_upon | (simp only []; go_at_K))
  ((with_reducible refine (nilBest _).mono ?_); rintro e w4 ⟨rfl, rfl⟩)
  repeat' ((fail_if_success (with_reducible refine stop_append rfl ?_)); (fail_if_success (with_reducible refine stop_copy rfl ?_)); first | go_values | go_skip | go_guarded | go_step | go_upon | (simp only []; go_at_K))
  ((with_reducible refine (P _).mono ?_); rintro e w5 ⟨rfl, hu5⟩)
  have hB5 := hB3.upd hu5 (by simp)
  have U5 := U3.trans hu5
  clear p0 p1 p2 p3 p4 p5 p6 hB3 U3 hu5 P
  obtain ⟨⟨p0, p1, p2, p3, p4, p5, p6⟩, -⟩ := hB5.c7
  repeat' ((fail_if_success (with_reducible refine stop_append rfl ?_)); (fail_if_success (with_reducible refine stop_copy rfl ?_)); first | go_values | go_skip | go_guarded | go_step | go_upon | (simp only []; go_at_K))
  ((with_reducible refine (nilCut _ _ _).mono ?_); rintro e w6 ⟨rfl, hu6⟩)
  have hB6 := hB5.upd hu6 (by simp)
  have U6 := U5.trans hu6
  clear p0 p1 p2 p3 p4 p5 p6 hB5 U5 hu6
  obtain ⟨⟨p0, p1, p2, p3, p4, p5, p6⟩, -⟩ := hB6.c7
  repeat' ((fail_if_success (with_reducible refine stop_append rfl ?_)); (fail_if_success (with_reducible refine stop_copy rfl ?_)); first | go_values | go_skip | go_guarded | go_step | go_upon | (simp only []; go_at_K))
  ((with_reducible refine (nilPrices _).mono ?_); rintro e w7 ⟨rfl, rfl⟩)
  repeat' ((fail_if_success (with_reducible refine stop_append rfl ?_)); (fail_if_success (with_reducible refine stop_copy rfl ?_)); first | go_values | go_skip | go_guarded | go_step | go_upon | (simp only []; go_at_K))
  ((with_reducible refine (nilAt _ _).mono ?_); rintro e w7 ⟨rfl, rfl⟩)
  repeat' ((fail_if_success (with_reducible refine stop_append rfl ?_)); (fail_if_success (with_reducible refine stop_copy rfl ?_)); first | go_values | go_skip | go_guarded | go_step | go_upon | (simp only []; go_at_K))
  ((with_reducible refine (nilLen _).mono ?_); rintro e w7 ⟨rfl, rfl⟩)
  repeat' ((fail_if_success (with_reducible refine stop_append rfl ?_)); (fail_if_success (with_reducible refine stop_copy rfl ?_)); first | go_values | go_skip | go_guarded | go_step | go_upon | (simp only []; go_at_K))
  ((with_reducible refine (nilList _).mono ?_); rintro e w7 ⟨rfl, rfl⟩)
  repeat' ((fail_if_success (with_reducible refine stop_append rfl ?_)); (fail_if_success (with_reducible refine stop_copy rfl ?_)); first | go_values | go_skip | go_guarded | go_step | go_upon | (simp only []; go_at_K))
  go_ret
  exact ⟨rfl, U6⟩
end Go.Proofs.Ytlkgmedkphcjpaa
