/- A side: may, Get. -/
import Derived.Test.YtdmmpcdilkcfjaaSide1
namespace Go.Proofs.Ytdmmpcdilkcfjaa
open Go.RowKit Agio Go.Maps

theorem mayO_cases (s : Int) (o : Ord) : (mayO s o = false ∧ (o.side ≠ s ∨ o.side = s ∧ (o.id < 1 ∨ 1 ≤ o.id ∧ (o.price < 1 ∨ 1 ≤ o.price ∧ (1073741824 < o.price ∨ o.price ≤ 1073741824 ∧ (o.qty < 1 ∨ 1 ≤ o.qty ∧ 1073741824 < o.qty)))))) ∨
    (mayO s o = true ∧ o.side = s ∧ 1 ≤ o.id ∧ 1 ≤ o.price ∧ o.price ≤ 1073741824 ∧ 1 ≤ o.qty ∧ o.qty ≤ 1073741824) := by
  unfold mayO
  by_cases h : o.side = s ∧ 1 ≤ o.id ∧ 1 ≤ o.price ∧ o.price ≤ 1073741824 ∧ 1 ≤ o.qty ∧ o.qty ≤ 1073741824
  · exact .inr ⟨by simpa using h, h⟩
  · refine .inl ⟨by simpa using h, ?_⟩
    omega
set_option maxRecDepth 100000 in
set_option maxHeartbeats 2000000 in
theorem sideMay (w : World) (g bo br : Nat) (s : Int) (hb : Blk w g 94 #[.int .i64 s, .map (some bo), .map (some br)]) (o : Ord) :
    Calls Try.prog 45 #[.pointer (some ⟨g, 0, none⟩), o.val] w fun e w' => e = .returned (.bool (mayO s o)) ∧ Upd [] [] w w' := by
  have hB : Blk (w.alloc (.cells #[.int .i64 o.id, .int .i64 o.client, .int .i64 o.side, .int .i64 o.price, .int .i64 o.qty, .bool o.peg, .int .i64 o.off] 32)) w.heap.size 32 #[.int .i64 o.id, .int .i64 o.client, .int .i64 o.side, .int .i64 o.price, .int .i64 o.qty, .bool o.peg, .int .i64 o.off] := Blk.new w _ _
  have U : Upd [] [] w (w.alloc (.cells #[.int .i64 o.id, .int .i64 o.client, .int .i64 o.side, .int .i64 o.price, .int .i64 o.qty, .bool o.peg, .int .i64 o.off] 32)) := (Upd.refl _ _).alloc _
  have hb' := hb.alloc (.cells #[.int .i64 o.id, .int .i64 o.client, .int .i64 o.side, .int .i64 o.price, .int .i64 o.qty, .bool o.peg, .int .i64 o.off] 32)
  rw [Ord.val]
  obtain ⟨b0, hb0⟩ : ∃ b0, w.heap.size = b0 := ⟨_, rfl⟩
  obtain ⟨W, hW⟩ : ∃ W, w.alloc (.cells #[.int .i64 o.id, .int .i64 o.client, .int .i64 o.side, .int .i64 o.price, .int .i64 o.qty, .bool o.peg, .int .i64 o.off] 32) = W := ⟨_, rfl⟩
  rw [hW, hb0] at hB
  rw [hW] at U hb'
  clear hb
  obtain ⟨id, client, side, price, qty, peg, off⟩ := o
  simp only at hW hB
  obtain ⟨⟨q0, q1, q2, q3, q4, q5, q6⟩, -⟩ := hB.c7
  obtain ⟨⟨r0, r1, r2⟩, -⟩ := hb'.c3
  rcases mayO_cases s ⟨id, client, side, price, qty, peg, off⟩ with ⟨hm, hc⟩ | ⟨hm, h1, h2, h3, h4, h5, h6⟩
  · rw [hm]
    clear hm
    simp only at hc
    rcases hc with h1 | ⟨h1, h2 | ⟨h2, h3 | ⟨h3, h4 | ⟨h4, h5 | ⟨h5, h6⟩⟩⟩⟩⟩
    · have b1 : (side == s) = false := by simpa using h1
      clear h1
      go_enter Try.func45, Try.ntmps45
      repeat' ((fail_if_success (with_reducible refine stop_append rfl ?_)); (fail_if_success (with_reducible refine stop_copy rfl ?_)); first | go_values | go_skip | go_guarded | go_step | go_upon | (simp only []; go_at_K))
      go_quiet (fail)
      repeat' ((fail_if_success (with_reducible refine stop_append rfl ?_)); (fail_if_success (with_reducible refine stop_copy rfl ?_)); first | go_values | go_skip | go_guarded | go_step | go_upon | (simp only []; go_at_K))
      go_ret
      exact ⟨rfl, U.drewN _⟩
    · subst h1
      have n2 : ¬ 1 ≤ id := by omega
      go_enter Try.func45, Try.ntmps45
      repeat' ((fail_if_success (with_reducible refine stop_append rfl ?_)); (fail_if_success (with_reducible refine stop_copy rfl ?_)); first | go_values | go_skip | go_guarded | go_step | go_upon | (simp only []; go_at_K))
      go_quiet (fail)
      repeat' ((fail_if_success (with_reducible refine stop_append rfl ?_)); (fail_if_success (with_reducible refine stop_copy rfl ?_)); first | go_values | go_skip | go_guarded | go_step | go_upon | (simp only []; go_at_K))
      go_ret
      exact ⟨rfl, U.drewN _⟩
    · subst h1
      have n3 : ¬ 1 ≤ price := by omega
      go_enter Try.func45, Try.ntmps45
      repeat' ((fail_if_success (with_reducible refine stop_append rfl ?_)); (fail_if_success (with_reducible refine stop_copy rfl ?_)); first | go_values | go_skip | go_guarded | go_step | go_upon | (simp only []; go_at_K))
      go_quiet (fail)
      repeat' ((fail_if_success (with_reducible refine stop_append rfl ?_)); (fail_if_success (with_reducible refine stop_copy rfl ?_)); first | go_values | go_skip | go_guarded | go_step | go_upon | (simp only []; go_at_K))
      go_ret
      exact ⟨rfl, U.drewN _⟩
    · subst h1
      have n4 : ¬ price ≤ 1073741824 := by omega
      go_enter Try.func45, Try.ntmps45
      repeat' ((fail_if_success (with_reducible refine stop_append rfl ?_)); (fail_if_success (with_reducible refine stop_copy rfl ?_)); first | go_values | go_skip | go_guarded | go_step | go_upon | (simp only []; go_at_K))
      go_quiet (fail)
      repeat' ((fail_if_success (with_reducible refine stop_append rfl ?_)); (fail_if_success (with_reducible refine stop_copy rfl ?_)); first | go_values | go_skip | go_guarded | go_step | go_upon | (simp only []; go_at_K))
      go_ret
      exact ⟨rfl, U.drewN _⟩
    · subst h1
      have n5 : ¬ 1 ≤ qty := by omega
      go_enter Try.func45, Try.ntmps45
      repeat' ((fail_if_success (with_reducible refine stop_append rfl ?_)); (fail_if_success (with_reducible refine stop_copy rfl ?_)); first | go_values | go_skip | go_guarded | go_step | go_upon | (simp only []; go_at_K))
      go_quiet (fail)
      repeat' ((fail_if_success (with_reducible refine stop_append rfl ?_)); (fail_if_success (with_reducible refine stop_copy rfl ?_)); first | go_values | go_skip | go_guarded | go_step | go_upon | (simp only []; go_at_K))
      go_ret
      exact ⟨rfl, U.drewN _⟩
    · subst h1
      have n6 : ¬ qty ≤ 1073741824 := by omega
      go_enter Try.func45, Try.ntmps45
      repeat' ((fail_if_success (with_reducible refine stop_append rfl ?_)); (fail_if_success (with_reducible refine stop_copy rfl ?_)); first | go_values | go_skip | go_guarded | go_step | go_upon | (simp only []; go_at_K))
      go_quiet (fail)
      repeat' ((fail_if_success (with_reducible refine stop_append rfl ?_)); (fail_if_success (with_reducible refine stop_copy rfl ?_)); first | go_values | go_skip | go_guarded | go_step | go_upon | (simp only []; go_at_K))
      go_ret
      exact ⟨rfl, U.drewN _⟩
  · rw [hm]
    clear hm
    simp only at h1 h2 h3 h4 h5 h6
    subst h1
    go_enter Try.func45, Try.ntmps45
    repeat' ((fail_if_success (with_reducible refine stop_append rfl ?_)); (fail_if_success (with_reducible refine stop_copy rfl ?_)); first | go_values | go_skip | go_guarded | go_step | go_upon | (simp only []; go_at_K))
    go_quiet (fail)
    repeat' ((fail_if_success (with_reducible refine stop_append rfl ?_)); (fail_if_success (with_reducible refine stop_copy rfl ?_)); first | go_values | go_skip | go_guarded | go_step | go_upon | (simp only []; go_at_K))
    go_ret
    exact ⟨rfl, U.drewN _⟩
end Go.Proofs.Ytdmmpcdilkcfjaa
