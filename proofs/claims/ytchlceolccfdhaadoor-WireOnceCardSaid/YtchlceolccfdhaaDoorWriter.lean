/- What is laid down: (*wire.Writer).Uint, Int, Bytes, Told; agioref02.Zig, Bytes; bytes.Clone. -/
import Derived.Test.YtchlceolccfdhaaDoorUint
namespace Go.Proofs.YtchlceolccfdhaaDoor
open Go.RowKit Agio

theorem _root_.Agio.RdB.upd' {w w' : World} {A : Option Addr} {n : Nat} {l : List UInt8} {a b : List Nat} (h : RdB w A n l) (hu : Upd a b w w') (hd : 0 < n → ∀ k ∈ ablk A, k ∉ a) : RdB w' A n l := by
  rcases Nat.eq_zero_or_pos n with h0 | h0
  · exact ⟨h.1, fun hn => absurd hn (by omega)⟩
  · exact h.upd hu (hd h0)
theorem _root_.Agio.RdB.lt {w : World} {A : Option Addr} {n : Nat} {l : List UInt8} (h : RdB w A n l) : 0 < n → ∀ k ∈ ablk A, k < w.heap.size := by
  intro hn k hk
  obtain ⟨ad, rfl, hc⟩ := h.2 hn
  have hl := h.len
  simp [ablk] at hk; subst hk
  have := World.block_lt_of_cell? w _ (hc 0 _ (b8s_get l 0 (by omega)))
  rwa [block_of_add] at this

theorem Rd.new {w : World} (t : TypeId) (fr : Nat × Nat) {size n : Nat} {cs : List Value} (hl : cs.length = n * size) : Rd (w.alloc (.cells cs.toArray t fr)) size (some ⟨w.heap.size, 0, none⟩) n cs :=
  ⟨hl, fun _ => ⟨_, rfl, fun j u hu => by
    have : (⟨w.heap.size, 0, none⟩ : Addr).add j = ⟨w.heap.size, j, none⟩ := by unfold Addr.add; split <;> simp_all
    rw [this]
    have hh : (w.alloc (.cells cs.toArray t fr)).heap[w.heap.size]? = some (.cells cs.toArray t fr) := heap_alloc_new w _
    simp only [World.cell?, hh]
    simpa using hu⟩⟩
theorem strOf {w : World} {A : Option Addr} {n : Nat} {l : List UInt8} (h : RdB w A n l) (c : Nat) : (convert 24 9 (.slice A n c)).run Tryd.prog w = .ok (.string ⟨l.toArray⟩) w :=
  run_bytes_str Tryd.underlying24 Tryd.underlying5 Tryd.underlying9 h c

/-- What turns nothing that was there turns nothing, whatever may turn. -/
theorem _root_.Agio.Upd.up {b : List Nat} {w w' : World} (h : Upd [] b w w') (fp : List Nat) : Upd fp fp w w' := h.mono (by simp) (fun _ hk => .inr (.inl hk))
/-- A writer at block g, whose slice is .slice A k c, in which l was laid down. -/
structure Wr (w : World) (g : Nat) (A : Option Addr) (k c : Nat) (l : List UInt8) : Prop where
  blk : Blk w g 42 #[.slice A k c]
  own : OwnB 5 w A k c l
section
variable {w w' w1 : World} {g : Nat} {A A' : Option Addr} {k c k' c' : Nat} {l l' : List UInt8} {a b : List Nat}
theorem Wr.upd (h : Wr w g A k c l) (hu : Upd a b w w') (hd : ∀ k ∈ g :: ablk A, k ∉ a) : Wr w' g A k c l :=
  ⟨h.blk.upd hu (hd g (by simp)), h.own.upd hu fun k hk => hd k (by simp [hk])⟩
theorem Wr.ne (h : Wr w g A k c l) : g ∉ ablk A := h.own.own.ne h.blk (by decide)
theorem Wr.lt (h : Wr w g A k c l) : ∀ k ∈ g :: ablk A, k < w.heap.size := fun k hk => by
  rcases List.mem_cons.1 hk with rfl | hk
  · exact h.blk.lt
  · exact h.own.own.lt k hk
/-- Behind an append onto the writer's slice, and the store of what came of it. -/
theorem Wr.put (h : Wr w g A k c l) (o : OwnB 5 w1 A' k' c' l') (hu : Upd (ablk A) (ablk A') w w1) :
    Wr (w1.setCell ⟨g, 0, none⟩ (.slice A' k' c')) g A' k' c' l' ∧ Upd (g :: ablk A) (g :: ablk A') w (w1.setCell ⟨g, 0, none⟩ (.slice A' k' c')) := by
  have hb1 := h.blk.upd hu h.ne
  have hn : g ∉ ablk A' := o.own.ne hb1 (by decide)
  refine ⟨⟨by simpa using hb1.set_ 0 (.slice A' k' c'), o.upd ((Upd.refl [g] w1).setCell (p := ⟨g, 0, none⟩) (.inl (by simp)) _) (fun k hk => by simp; rintro rfl; exact hn hk)⟩, ?_⟩
  refine (hu.mono (a' := g :: ablk A) (b' := g :: ablk A') (fun k hk => by simp [hk]) (fun k hk => ?_)).setCell (.inl (by simp)) _
  rcases List.mem_cons.1 hk with rfl | hk
  · exact .inr (.inl (by simp))
  · exact .inl hk
end

set_option maxRecDepth 100000 in
set_option maxHeartbeats 400000 in
theorem writerUint (n : Int) (w : World) (g : Nat) (A : Option Addr) (k c : Nat) (l : List UInt8) (h0 : 0 ≤ n) (hU : U64 n.toNat) (hw : Wr w g A k c l) (hlen : l.length + 16 ≤ 140737488355328) :
    Calls Tryd.prog 25 #[.pointer (some ⟨g, 0, none⟩), .int .u64 n] w fun e w' => e = .returned (.tuple #[]) ∧ ∃ A' k' c', Wr w' g A' k' c' (l ++ leb n.toNat) ∧ Upd (g :: ablk A) (g :: ablk A') w w' := by
  go_enter Tryd.func25, Tryd.ntmps25
  repeat' ((fail_if_success (refine stop_append rfl ?_)); (fail_if_success (refine stop_copy rfl ?_)); first | go_values | go_skip | go_guarded | go_step | go_upon | (simp only []; go_at_K))
  go_loopw [1] (fun v1 wr => ∃ m : Int, 0 ≤ m ∧ ∃ (l1 : List UInt8) (A2 : Option Addr) (k2 c2 : Nat), v1 = .int .u64 m ∧ U64 m.toNat ∧ l1 ++ leb m.toNat = l ++ leb n.toNat ∧ Wr wr g A2 k2 c2 l1 ∧ Upd (g :: ablk A) (g :: ablk A2) w wr)
    (fun v1 _ => (intOf v1).toNat)
  case atStart => exact ⟨n, h0, l, A, k, c, rfl, hU, rfl, hw, Upd.refl _ _⟩
  case round =>
    obtain ⟨m, hm0, l1, A2, k2, c2, rfl, hmU, hl, hwr, hu⟩ := hrel
    have hlen1 : l1.length + 1 ≤ 140737488355328 := by have := leb_len hU; have h2 := congrArg List.length hl; have := leb_pos m.toNat; simp only [List.length_append] at h2; omega
    have HL := Lib.hid hl; clear hl
    have hc := hwr.blk.cell 0
    simp at hc
    by_cases hm : 128 ≤ m
    · repeat' ((fail_if_success (refine stop_append rfl ?_)); (fail_if_success (refine stop_copy rfl ?_)); first | go_values | go_skip | go_guarded | go_step | go_upon | (simp only []; go_at_K))
      refine wpList_pushB rfl _ _ 24 rfl 5 Tryd.underlying24 infoU8 hwr.own rfl _ rfl _ rfl (m.toNat % 128 + 128) (by omega) (leb_byte hm0 hmU) (by omega) ?_
      intro A' k' c' w1 hown1 hu1
      have P := hwr.put hown1 hu1
      have hc1 := (hwr.blk.upd hu1 hwr.ne).cell 0
      have hf1 := (hwr.blk.upd hu1 hwr.ne).frozen 0
      simp at hc1
      clear hc
      repeat' ((fail_if_success (refine stop_append rfl ?_)); (fail_if_success (refine stop_copy rfl ?_)); first | go_values | go_skip | go_guarded | go_step | go_upon | (simp only []; go_at_K))
      refine ⟨⟨_, Int.ediv_nonneg hm0 (by omega), _, _, _, _, rfl, hmU.le (by omega), ?_, P.1, hu.trans P.2⟩, by simp [intOf]; omega⟩
      rw [← HL.out, leb_ge (n := m.toNat) (by omega), List.append_assoc, List.singleton_append, show (m / 128).toNat = m.toNat / 128 by omega]
    · repeat' ((fail_if_success (refine stop_append rfl ?_)); (fail_if_success (refine stop_copy rfl ?_)); first | go_values | go_skip | go_guarded | go_step | go_upon | (simp only []; go_at_K))
      refine wpList_pushB rfl _ _ 24 rfl 5 Tryd.underlying24 infoU8 hwr.own rfl _ rfl _ rfl m.toNat (by omega) (by omega) (by omega) ?_
      intro A' k' c' w1 hown1 hu1
      have P := hwr.put hown1 hu1
      have hc1 := (hwr.blk.upd hu1 hwr.ne).cell 0
      have hf1 := (hwr.blk.upd hu1 hwr.ne).frozen 0
      simp at hc1
      clear hc
      repeat' ((fail_if_success (refine stop_append rfl ?_)); (fail_if_success (refine stop_copy rfl ?_)); first | go_values | go_skip | go_guarded | go_step | go_upon | (simp only []; go_at_K))
      go_end0
      refine ⟨rfl, A', k', c', ?_, hu.trans P.2⟩
      rw [← HL.out, leb_lt (n := m.toNat) (by omega)]
      exact P.1

set_option maxRecDepth 100000 in
set_option maxHeartbeats 400000 in
/-- 2n, or -2n - 1 below 0. -/
theorem writerInt (n : Int) (w : World) (g : Nat) (A : Option Addr) (k c : Nat) (l : List UInt8) (hn : I64 n) (hw : Wr w g A k c l) (hlen : l.length + 16 ≤ 140737488355328) :
    Calls Tryd.prog 57 #[.pointer (some ⟨g, 0, none⟩), .int .i64 n] w fun e w' => e = .returned (.tuple #[]) ∧ ∃ A' k' c', Wr w' g A' k' c' (l ++ leb (zig n)) ∧ Upd (g :: ablk A) (g :: ablk A') w w' := by
  by_cases h : n < 0
  · go_enter Tryd.func57, Tryd.ntmps57
    repeat' ((fail_if_success (refine stop_append rfl ?_)); (fail_if_success (refine stop_copy rfl ?_)); first | go_values | go_skip | go_guarded | go_step | go_upon | (simp only []; go_at_K))
    rw [zig_neg hn h]
    refine (writerUint _ w g A k c l (by omega) (by simpa using zig_U64 hn) hw hlen).mono ?_
    rintro e w1 ⟨rfl, A1, k1, c1, hw1, hu1⟩
    repeat' ((fail_if_success (refine stop_append rfl ?_)); (fail_if_success (refine stop_copy rfl ?_)); first | go_values | go_skip | go_guarded | go_step | go_upon | (simp only []; go_at_K))
    refine bodyPost_ret (results_none rfl _ _ _) rfl ?_
    exact ⟨rfl, A1, k1, c1, by simpa using hw1, hu1⟩
  · go_enter Tryd.func57, Tryd.ntmps57
    repeat' ((fail_if_success (refine stop_append rfl ?_)); (fail_if_success (refine stop_copy rfl ?_)); first | go_values | go_skip | go_guarded | go_step | go_upon | (simp only []; go_at_K))
    rw [zig_pos hn h]
    refine (writerUint _ w g A k c l (by omega) (by simpa using zig_U64 hn) hw hlen).mono ?_
    rintro e w1 ⟨rfl, A1, k1, c1, hw1, hu1⟩
    repeat' ((fail_if_success (refine stop_append rfl ?_)); (fail_if_success (refine stop_copy rfl ?_)); first | go_values | go_skip | go_guarded | go_step | go_upon | (simp only []; go_at_K))
    go_end0
    exact ⟨rfl, A1, k1, c1, by simpa using hw1, hu1⟩

set_option maxRecDepth 100000 in
set_option maxHeartbeats 400000 in
/-- How many bytes there are, and they. -/
theorem writerBytes (w : World) (g : Nat) (A : Option Addr) (k c : Nat) (l : List UInt8) (B : Option Addr) (m d : Nat) (r : List UInt8) (hr : RdB w B m r) (hB : 0 < m → ∀ j ∈ ablk B, j ∉ g :: ablk A) (hw : Wr w g A k c l) (hlen : l.length + r.length + 16 ≤ 140737488355328) :
    Calls Tryd.prog 58 #[.pointer (some ⟨g, 0, none⟩), .slice B m d] w fun e w' => e = .returned (.tuple #[]) ∧ ∃ A' k' c', Wr w' g A' k' c' (l ++ leb r.length ++ r) ∧ Upd (g :: ablk A) (g :: ablk A') w w' := by
  obtain rfl := hr.len
  go_enter Tryd.func58, Tryd.ntmps58
  repeat' ((fail_if_success (refine stop_append rfl ?_)); (fail_if_success (refine stop_copy rfl ?_)); first | go_values | go_skip | go_guarded | go_step | go_upon | (simp only []; go_at_K))
  refine (writerUint _ w g A k c l (by omega) (U64.small (by omega)) hw (by omega)).mono ?_
  rintro e w1 ⟨rfl, A1, k1, c1, hw1, hu1⟩
  have hc := hw1.blk.cell 0
  have hr1 := hr.upd' hu1 hB
  simp at hc
  repeat' ((fail_if_success (refine stop_append rfl ?_)); (fail_if_success (refine stop_copy rfl ?_)); first | go_values | go_skip | go_guarded | go_step | go_upon | (simp only []; go_at_K))
  refine wpList_appB rfl _ _ 24 rfl 5 Tryd.underlying24 infoU8 hw1.own rfl hr1 rfl ?_ ?_
  · have := leb_len (n := r.length) (U64.small (by omega)); simp; omega
  · intro A2 k2 c2 w2 hown2 hu2
    have P := hw1.put hown2 hu2
    have hc1 := (hw1.blk.upd hu2 hw1.ne).cell 0
    have hf1 := (hw1.blk.upd hu2 hw1.ne).frozen 0
    simp at hc1
    clear hc
    repeat' ((fail_if_success (refine stop_append rfl ?_)); (fail_if_success (refine stop_copy rfl ?_)); first | go_values | go_skip | go_guarded | go_step | go_upon | (simp only []; go_at_K))
    go_end0
    exact ⟨rfl, A2, k2, c2, by simpa using P.1, hu1.trans P.2⟩

set_option maxRecDepth 100000 in
set_option maxHeartbeats 400000 in
/-- bytes.Clone: nil stays nil; else a row of the call's own. -/
theorem bytesClone (w : World) (B : Option Addr) (m d : Nat) (r : List UInt8) (hr : RdB w B m r) (hlen : r.length ≤ 140737488355328) :
    Calls Tryd.prog 59 #[.slice B m d] w fun e w' => ∃ A' k' c', e = .returned (.slice A' k' c') ∧ OwnB 5 w' A' k' c' r ∧ Upd [] (ablk A') w w' := by
  have hnil := fun w => Lib.run_eql_slice_nil (P := Tryd.prog) w 24 5 B m d 0 0 Tryd.underlying24
  cases B with
  | none =>
    have hm : m = 0 := by
      rcases Nat.eq_zero_or_pos m with h | h
      · exact h
      · obtain ⟨_, h, _⟩ := hr.2 h; cases h
    subst hm
    obtain rfl : r = [] := List.eq_nil_of_length_eq_zero hr.len.symm
    go_enter Tryd.func59, Tryd.ntmps59
    repeat' ((fail_if_success (refine stop_append rfl ?_)); (fail_if_success (refine stop_copy rfl ?_)); first | go_values | go_skip | go_guarded | go_step | go_upon | (simp only []; go_at_K))
    go_ret
    exact ⟨none, 0, 0, rfl, OwnB.nil _ _, Upd.refl _ _⟩
  | some ad =>
    go_enter Tryd.func59, Tryd.ntmps59
    repeat' ((fail_if_success (refine stop_append rfl ?_)); (fail_if_success (refine stop_copy rfl ?_)); first | go_values | go_skip | go_guarded | go_step | go_upon | (simp only []; go_at_K))
    refine wpList_appB rfl _ _ 24 rfl 5 Tryd.underlying24 infoU8 (OwnB.made _ _) rfl (hr.alloc _) rfl (by simpa using hlen) ?_
    intro A2 k2 c2 w2 hown2 hu2
    repeat' ((fail_if_success (refine stop_append rfl ?_)); (fail_if_success (refine stop_copy rfl ?_)); first | go_values | go_skip | go_guarded | go_step | go_upon | (simp only []; go_at_K))
    go_ret
    exact ⟨A2, k2, c2, rfl, hown2, (((Upd.refl [] w).alloc _).gives (by simp [ablk])).trans hu2⟩

set_option maxRecDepth 100000 in
theorem refZig (n : Int) (w : World) (hn : I64 n) :
    Calls Tryd.prog 19 #[.int .i64 n] w fun e w' => e = .returned (.int .u64 ((zig n : Nat) : Int)) ∧ w = w' := by
  by_cases h : n < 0
  · have h2 : ¬ 0 ≤ n := by omega
    go_enter Tryd.func19, Tryd.ntmps19
    repeat' ((fail_if_success (refine stop_append rfl ?_)); (fail_if_success (refine stop_copy rfl ?_)); first | go_values | go_skip | go_guarded | go_step | go_upon | (simp only []; go_at_K))
    rw [zig_neg' hn h]
    go_ret
    exact ⟨rfl, rfl⟩
  · have h2 : 0 ≤ n := by omega
    go_enter Tryd.func19, Tryd.ntmps19
    repeat' ((fail_if_success (refine stop_append rfl ?_)); (fail_if_success (refine stop_copy rfl ?_)); first | go_values | go_skip | go_guarded | go_step | go_upon | (simp only []; go_at_K))
    rw [zig_pos' hn h]
    go_ret
    exact ⟨rfl, rfl⟩

set_option maxRecDepth 100000 in
set_option maxHeartbeats 400000 in
theorem writerTold (w : World) (g : Nat) (A : Option Addr) (k c : Nat) (l : List UInt8) (hw : Wr w g A k c l) (hlen : l.length ≤ 140737488355328) :
    Calls Tryd.prog 26 #[.pointer (some ⟨g, 0, none⟩)] w fun e w' => ∃ A' k' c', e = .returned (.slice A' k' c') ∧ OwnB 5 w' A' k' c' l ∧ Upd [] (ablk A') w w' := by
  have hc := hw.blk.cell 0
  simp at hc
  go_enter Tryd.func26, Tryd.ntmps26
  repeat' ((fail_if_success (refine stop_append rfl ?_)); (fail_if_success (refine stop_copy rfl ?_)); first | go_values | go_skip | go_guarded | go_step | go_upon | (simp only []; go_at_K))
  refine (bytesClone w A k c l hw.own.rd hlen).mono ?_
  rintro e w1 ⟨A1, k1, c1, rfl, ho, hu⟩
  repeat' ((fail_if_success (refine stop_append rfl ?_)); (fail_if_success (refine stop_copy rfl ?_)); first | go_values | go_skip | go_guarded | go_step | go_upon | (simp only []; go_at_K))
  go_ret
  exact ⟨A1, k1, c1, rfl, ho, hu⟩

set_option maxRecDepth 100000 in
set_option maxHeartbeats 400000 in
theorem refBytes (w : World) (B : Option Addr) (m d : Nat) (r : List UInt8) (hr : RdB w B m r) (hlen : r.length + 16 ≤ 140737488355328) :
    Calls Tryd.prog 20 #[.slice B m d] w fun e w' => ∃ A' k' c', e = .returned (.slice A' k' c') ∧ OwnB 5 w' A' k' c' (leb r.length ++ r) ∧ Upd [] (ablk A') w w' := by
  obtain rfl := hr.len
  go_enter Tryd.func20, Tryd.ntmps20
  repeat' ((fail_if_success (refine stop_append rfl ?_)); (fail_if_success (refine stop_copy rfl ?_)); first | go_values | go_skip | go_guarded | go_step | go_upon | (simp only []; go_at_K))
  refine (refUint_any _ w (by omega) (U64.small (by omega))).mono ?_
  rintro e w1 ⟨A1, k1, c1, rfl, ho1, hu1⟩
  have hr1 := hr.upd hu1 (by simp)
  repeat' ((fail_if_success (refine stop_append rfl ?_)); (fail_if_success (refine stop_copy rfl ?_)); first | go_values | go_skip | go_guarded | go_step | go_upon | (simp only []; go_at_K))
  refine wpList_appB rfl _ _ 24 rfl 5 Tryd.underlying24 infoU8 ho1 rfl hr1 rfl ?_ ?_
  · have := leb_len (n := r.length) (U64.small (by omega)); simp; omega
  · intro A2 k2 c2 w2 ho2 hu2
    repeat' ((fail_if_success (refine stop_append rfl ?_)); (fail_if_success (refine stop_copy rfl ?_)); first | go_values | go_skip | go_guarded | go_step | go_upon | (simp only []; go_at_K))
    go_ret
    exact ⟨A2, k2, c2, rfl, by simpa using ho2, hu1.trans hu2⟩
end Go.Proofs.YtchlceolccfdhaaDoor
