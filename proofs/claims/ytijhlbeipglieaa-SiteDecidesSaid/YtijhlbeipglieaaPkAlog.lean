/- Merged: Alog, Alog2, Flat, Structs, Alog5. -/
import Derived.Test.YtijhlbeipglieaaPkFrame
import Derived.Test.YtijhlbeipglieaaPkPlain
import Derived.Test.YtijhlbeipglieaaPkNet
import Derived.Test.YtijhlbeipglieaaPkBase
/- Records: (agio/alog).may, lay, Encode. -/
namespace Go.Proofs.Ytijhlbeipglieaa
open Go.RowKit Agio

/-- A record as a value. -/
structure Rv where
  k : Int
  s : Int
  r : Int
  t : Int
  A : Option Addr
  n : Nat
  c : Nat
  b : List UInt8
def Rv.cells (x : Rv) : List Value := [.int .i64 x.k, .int .i64 x.s, .int .i64 x.r, .int .i64 x.t, .slice x.A x.n x.c]
def Rv.val (x : Rv) : Value := .agg x.cells.toArray
def Rv.rc (x : Rv) : Rc := ⟨x.k, x.s, x.r, x.t, x.b⟩
theorem Rv.val_eq (x : Rv) : x.val = .agg #[.int .i64 x.k, .int .i64 x.s, .int .i64 x.r, .int .i64 x.t, .slice x.A x.n x.c] := rfl
theorem Rv.cells_len (x : Rv) : x.cells.length = 5 := rfl
theorem may_no {r : Rc} (h : ¬ r.May) : (r.slot < 0 ∨ 4096 ≤ r.slot) ∨ (0 ≤ r.slot ∧ r.slot < 4096) ∧ ((r.round < 0 ∨ 1099511627776 < r.round) ∨ (0 ≤ r.round ∧ r.round ≤ 1099511627776) ∧ ((r.site < 0 ∨ 7 ≤ r.site) ∨ (0 ≤ r.site ∧ r.site < 7) ∧ (r.kind = 1 ∧ ¬ r.val.length = 0 ∨ ¬ r.kind = 1 ∧ ¬ r.kind = 2 ∨ ¬ r.kind = 1 ∧ r.kind = 2 ∧ 2048 < r.val.length))) := by
  by_cases h1 : r.slot < 0 ∨ 4096 ≤ r.slot
  · exact .inl h1
  refine .inr ⟨by omega, ?_⟩
  by_cases h2 : r.round < 0 ∨ 1099511627776 < r.round
  · exact .inl h2
  refine .inr ⟨by omega, ?_⟩
  by_cases h3 : r.site < 0 ∨ 7 ≤ r.site
  · exact .inl h3
  refine .inr ⟨by omega, ?_⟩
  by_cases h4 : r.kind = 1
  · refine .inl ⟨h4, fun h5 => h ⟨.inl ⟨h4, h5⟩, by omega, by omega, by omega, by omega⟩⟩
  · by_cases h5 : r.kind = 2
    · refine .inr (.inr ⟨h4, h5, ?_⟩)
      rcases Nat.lt_or_ge 2048 r.val.length with h6 | h6
      · exact h6
      · exact absurd ⟨.inr h5, by omega, by omega, by omega, h6⟩ h
    · exact .inr (.inl ⟨h4, h5⟩)

set_option maxRecDepth 100000 in
set_option maxHeartbeats 2000000 in
theorem alogMay_yes (x : Rv) (w : World) (hr : RdB w x.A x.n x.b) (hm : x.rc.May) :
    Calls Try.prog 78 #[x.val] w fun e w' => e = .returned (.bool true) ∧ Upd [] [] w w' := by
  obtain ⟨k, s, r, t, A, n, c, b⟩ := x
  obtain ⟨h1, ⟨h2, h2'⟩, ⟨h3, h3'⟩, ⟨h4, h4'⟩, h5⟩ := hm
  simp only [Rv.rc] at h1 h2 h2' h3 h3' h4 h4' h5
  have hn := hr.len
  simp only at hn
  have g2 : s < 4096 := by omega
  have g4 : t < 7 := by omega
  clear h2' h4'
  rw [Rv.val_eq]
  rcases h1 with ⟨rfl, h6⟩ | rfl
  · obtain rfl : n = 0 := by omega
    clear hn hr h6 h5
    go_enter Try.func78, Try.ntmps78
    repeat' ((fail_if_success (with_reducible refine stop_append rfl ?_)); (fail_if_success (with_reducible refine stop_copy rfl ?_)); first | go_values | go_skip | go_guarded | go_step | go_upon | (simp only []; go_at_K))
    go_ret
    exact ⟨rfl, (Upd.refl _ _).alloc _⟩
  · have hnl : (n : Int) ≤ 2048 := by omega
    clear hn hr h5
    go_enter Try.func78, Try.ntmps78
    repeat' ((fail_if_success (with_reducible refine stop_append rfl ?_)); (fail_if_success (with_reducible refine stop_copy rfl ?_)); first | go_values | go_skip | go_guarded | go_step | go_upon | (simp only []; go_at_K))
    go_ret
    exact ⟨rfl, (Upd.refl _ _).alloc _⟩

set_option maxRecDepth 100000 in
set_option maxHeartbeats 4000000 in
theorem alogMay_no (x : Rv) (w : World) (hr : RdB w x.A x.n x.b) (hm : ¬ x.rc.May) :
    Calls Try.prog 78 #[x.val] w fun e w' => e = .returned (.bool false) ∧ Upd [] [] w w' := by
  obtain ⟨k, s, r, t, A, n, c, b⟩ := x
  have hn := hr.len
  have hm := may_no hm
  simp only [Rv.rc] at hm hn
  rw [Rv.val_eq]
  rcases hm with h1 | ⟨⟨h1, h1'⟩, h2 | ⟨⟨h2, h2'⟩, h3 | ⟨⟨h3, h3'⟩, h4 | h4 | h4⟩⟩⟩
  · clear hn hr
    rcases h1 with h1 | h1
    · go_enter Try.func78, Try.ntmps78
      repeat' ((fail_if_success (with_reducible refine stop_append rfl ?_)); (fail_if_success (with_reducible refine stop_copy rfl ?_)); first | go_values | go_skip | go_guarded | go_step | go_upon | (simp only []; go_at_K))
      go_ret
      exact ⟨rfl, (Upd.refl _ _).alloc _⟩
    · have h0 : 0 ≤ s := by omega
      go_enter Try.func78, Try.ntmps78
      repeat' ((fail_if_success (with_reducible refine stop_append rfl ?_)); (fail_if_success (with_reducible refine stop_copy rfl ?_)); first | go_values | go_skip | go_guarded | go_step | go_upon | (simp only []; go_at_K))
      go_ret
      exact ⟨rfl, (Upd.refl _ _).alloc _⟩
  · clear hn hr
    rcases h2 with h2 | h2
    · go_enter Try.func78, Try.ntmps78
      repeat' ((fail_if_success (with_reducible refine stop_append rfl ?_)); (fail_if_success (with_reducible refine stop_copy rfl ?_)); first | go_values | go_skip | go_guarded | go_step | go_upon | (simp only []; go_at_K))
      go_ret
      exact ⟨rfl, (Upd.refl _ _).alloc _⟩
    · have h0 : 0 ≤ r := by omega
      go_enter Try.func78, Try.ntmps78
      repeat' ((fail_if_success (with_reducible refine stop_append rfl ?_)); (fail_if_success (with_reducible refine stop_copy rfl ?_)); first | go_values | go_skip | go_guarded | go_step | go_upon | (simp only []; go_at_K))
      go_ret
      exact ⟨rfl, (Upd.refl _ _).alloc _⟩
  · clear hn hr
    rcases h3 with h3 | h3
    · go_enter Try.func78, Try.ntmps78
      repeat' ((fail_if_success (with_reducible refine stop_append rfl ?_)); (fail_if_success (with_reducible refine stop_copy rfl ?_)); first | go_values | go_skip | go_guarded | go_step | go_upon | (simp only []; go_at_K))
      go_ret
      exact ⟨rfl, (Upd.refl _ _).alloc _⟩
    · have h0 : 0 ≤ t := by omega
      go_enter Try.func78, Try.ntmps78
      repeat' ((fail_if_success (with_reducible refine stop_append rfl ?_)); (fail_if_success (with_reducible refine stop_copy rfl ?_)); first | go_values | go_skip | go_guarded | go_step | go_upon | (simp only []; go_at_K))
      go_ret
      exact ⟨rfl, (Upd.refl _ _).alloc _⟩
  · obtain ⟨rfl, h5⟩ := h4
    have h6 : ((n : Int) == 0) = false := by simp; omega
    clear hn hr h5
    go_enter Try.func78, Try.ntmps78
    repeat' ((fail_if_success (with_reducible refine stop_append rfl ?_)); (fail_if_success (with_reducible refine stop_copy rfl ?_)); first | go_values | go_skip | go_guarded | go_step | go_upon | (simp only []; go_at_K))
    go_ret
    exact ⟨rfl, (Upd.refl _ _).alloc _⟩
  · obtain ⟨h5, h6⟩ := h4
    have h5' : (k == 1) = false := by simp [h5]
    have h6' : (k == 2) = false := by simp [h6]
    clear hn hr h5 h6
    go_enter Try.func78, Try.ntmps78
    repeat' ((fail_if_success (with_reducible refine stop_append rfl ?_)); (fail_if_success (with_reducible refine stop_copy rfl ?_)); first | go_values | go_skip | go_guarded | go_step | go_upon | (simp only []; go_at_K))
    go_ret
    exact ⟨rfl, (Upd.refl _ _).alloc _⟩
  · obtain ⟨h5, rfl, h6⟩ := h4
    have h6' : decide ((n : Int) ≤ 2048) = false := by simp; omega
    clear hn hr h5 h6
    go_enter Try.func78, Try.ntmps78
    repeat' ((fail_if_success (with_reducible refine stop_append rfl ?_)); (fail_if_success (with_reducible refine stop_copy rfl ?_)); first | go_values | go_skip | go_guarded | go_step | go_upon | (simp only []; go_at_K))
    go_ret
    exact ⟨rfl, (Upd.refl _ _).alloc _⟩
end Go.Proofs.Ytijhlbeipglieaa

/- Records: (agio/alog).lay, Encode. -/
namespace Go.Proofs.Ytijhlbeipglieaa
open Go.RowKit Agio

set_option maxRecDepth 100000 in
set_option maxHeartbeats 1000000 in
theorem alogLayN (w : World) (g : Nat) (A : Option Addr) (k c : Nat) (l : List UInt8) (B : Option Addr) (m d : Nat) (ns : List Nat) (hw : Wr w g A k c l) (hr : Rd w 1 B m (i64s ns)) (hI : ∀ n ∈ ns, n ≤ 9223372036854775807) (hB : ∀ j ∈ ablk B, j ∉ g :: ablk A) (hBl : ∀ j ∈ ablk B, j < w.heap.size) (hm : m ≤ 1000) (hl : l.length ≤ 100000000) :
    Calls Try.prog 79 #[.pointer (some ⟨g, 0, none⟩), .slice B m d] w fun e w' => e = .returned (.tuple #[]) ∧ ∃ A' k' c', Wr w' g A' k' c' (l ++ ns.flatMap leb) ∧ Upd (g :: ablk A) (g :: ablk A') w w' := by
  have hn : ns.length = m := by have := hr.1; simpa [i64s] using this
  subst hn
  have hU : ∀ n ∈ ns, U64 n := fun n hn => U64.small (by have := hI n hn; omega)
  have hlen := lebs_take_len hU
  go_enter Try.func79, Try.ntmps79
  repeat' ((fail_if_success (with_reducible refine stop_append rfl ?_)); (fail_if_success (with_reducible refine stop_copy rfl ?_)); first | go_values | go_skip | go_guarded | go_step | go_upon | (simp only []; go_at_K))
  go_loopw [8] (fun v8 wr => ∃ (i : Nat) (A2 : Option Addr) (k2 c2 : Nat), i ≤ ns.length ∧ v8 = .int .i64 (i : Int) ∧ Wr wr g A2 k2 c2 (l ++ (ns.take i).flatMap leb) ∧ Upd (g :: ablk A) (g :: ablk A2) w wr)
    (fun v8 _ => ns.length - (intOf v8).toNat)
  case atStart => exact ⟨0, A, k, c, by omega, rfl, by simpa using hw, Upd.refl _ _⟩
  case round =>
    obtain ⟨i, A2, k2, c2, hi, rfl, hw2, hu⟩ := hrel
    have hli := hlen i
    by_cases hlt : i < ns.length
    · have hrr := hr.upd hu hB
      obtain ⟨ad, u, rfl, hx, hcell⟩ := Rd.at_ hrr (k := i) hlt
      rw [i64s_get ns i hlt] at hx
      obtain rfl := Option.some.inj hx
      have HS := Lib.hid (lebs_take hlt)
      have hxI := hI ns[i] (List.getElem_mem hlt)
      have hxU := hU ns[i] (List.getElem_mem hlt)
      generalize ns[i] = x at *
      have hx0 : (0 : Int) ≤ (x : Int) := by omega
      have hx1 : (x : Int) ≤ 9223372036854775807 := by omega
      have hw64 : IntKind.u64.wrap (x : Int) = (x : Int) := by rw [IntKind.wrap_u64]; omega
      clear hx hr
      repeat' ((fail_if_success (with_reducible refine stop_append rfl ?_)); (fail_if_success (with_reducible refine stop_copy rfl ?_)); first | go_values | go_skip | go_guarded | go_step | go_upon | (simp only []; go_at_K))
      refine (writerUint (x : Int) wr g A2 k2 c2 _ (by omega) (by simpa using hxU) hw2 (by simp only [List.length_append]; omega)).mono ?_
      rintro e w3 ⟨rfl, A3, k3, c3, hw3, hu3⟩
      rw [Int.toNat_natCast, List.append_assoc, ← HS.out] at hw3
      repeat' ((fail_if_success (with_reducible refine stop_append rfl ?_)); (fail_if_success (with_reducible refine stop_copy rfl ?_)); first | go_values | go_skip | go_guarded | go_step | go_upon | (simp only []; go_at_K))
      exact ⟨⟨i + 1, A3, k3, c3, by omega, rfl, hw3, hu.trans hu3⟩, by simp [intOf]; omega⟩
    · obtain rfl : i = ns.length := by omega
      rw [List.take_length] at hw2
      repeat' ((fail_if_success (with_reducible refine stop_append rfl ?_)); (fail_if_success (with_reducible refine stop_copy rfl ?_)); first | go_values | go_skip | go_guarded | go_step | go_upon | (simp only []; go_at_K))
      go_end0
      exact ⟨rfl, A2, k2, c2, hw2, hu⟩

set_option maxRecDepth 100000 in
set_option maxHeartbeats 2000000 in
theorem alogEncode_no (x : Rv) (w : World) (hr : RdB w x.A x.n x.b) (hm : ¬ x.rc.May) :
    Calls Try.prog 64 #[x.val] w fun e w' => e = .returned (.tuple #[.slice none 0 0, .int .i64 1]) ∧ Upd [] [] w w' := by
  have C := fun w hr => alogMay_no x w hr hm
  have HR : Hid (∀ o, RdB (w.alloc o) x.A x.n x.b) := fun o => hr.alloc o
  rw [Rv.val_eq] at C ⊢
  clear hr hm
  go_enter Try.func64, Try.ntmps64
  repeat' ((fail_if_success (with_reducible refine stop_append rfl ?_)); (fail_if_success (with_reducible refine stop_copy rfl ?_)); first | go_values | go_skip | go_guarded | go_step | go_upon | (simp only []; go_at_K))
  refine (C _ (HR.out _)).mono ?_
  rintro e w1 ⟨rfl, hu1⟩
  repeat' ((fail_if_success (with_reducible refine stop_append rfl ?_)); (fail_if_success (with_reducible refine stop_copy rfl ?_)); first | go_values | go_skip | go_guarded | go_step | go_upon | (simp only []; go_at_K))
  go_ret2
  exact ⟨rfl, ((Upd.refl _ _).alloc _).trans hu1⟩

set_option maxRecDepth 100000 in
set_option maxHeartbeats 2000000 in
theorem alogEncode (x : Rv) (w : World) (hr : RdB w x.A x.n x.b) (hm : x.rc.May) :
    Calls Try.prog 64 #[x.val] w fun e w' => ∃ A' k' c', e = .returned (.tuple #[.slice A' k' c', .int .i64 0]) ∧ OwnB 5 w' A' k' c' x.rc.bytes ∧ Upd [] (ablk A') w w' := by
  have C := fun w hr => alogMay_yes x w hr hm
  have h1 := hm.kind
  have h2 := hm.slot
  have h3 := hm.round
  have h4 := hm.site
  have hU := hm.U
  have hv := hm.val
  have HB : Hid (x.rc.bytes = x.rc.ns.flatMap leb ++ leb x.b.length ++ x.b) := by unfold Hid Rc.bytes bodyB; rw [List.append_assoc]; rfl
  have HN : Hid (i64s x.rc.ns = [.int .i64 x.k, .int .i64 x.s, .int .i64 x.r, .int .i64 x.t]) := by
    unfold Hid i64s Rc.ns
    simp only [Rv.rc] at h1 h2 h3 h4 ⊢
    simp only [List.map_cons, List.map_nil, List.cons.injEq, Value.int.injEq, true_and, and_true]
    omega
  have hnl : x.rc.ns.length = 4 := rfl
  have HNL := Lib.hid hnl; clear hnl
  have hns : ∀ n ∈ x.rc.ns, n ≤ 9223372036854775807 := by
    intro n hn
    simp only [Rv.rc] at h1 h2 h3 h4
    simp only [Rc.ns, Rv.rc, List.mem_cons, List.not_mem_nil, or_false] at hn
    rcases hn with rfl | rfl | rfl | rfl <;> omega
  have hvl : x.b.length ≤ 2048 := hv
  have hlb := lebs_len hU
  have HLT := Lib.hid hr.lt
  generalize x.rc.ns = ns at *
  rw [Rv.val_eq] at C ⊢
  clear h1 h2 h3 h4 hm hv
  go_enter Try.func64, Try.ntmps64
  repeat' ((fail_if_success (with_reducible refine stop_append rfl ?_)); (fail_if_success (with_reducible refine stop_copy rfl ?_)); first | go_values | go_skip | go_guarded | go_step | go_upon | (simp only []; go_at_K))
  refine (C _ (hr.alloc _)).mono ?_
  rintro e w1 ⟨rfl, hu1⟩
  have hX := (Blk.new w 81 #[.int .i64 x.k, .int .i64 x.s, .int .i64 x.r, .int .i64 x.t, .slice x.A x.n x.c]).upd hu1 (by simp)
  have U1 : Upd [] [] w w1 := ((Upd.refl _ _).alloc _).trans hu1
  have hX2 := hX.alloc (.cells #[.slice none 0 0] 93)
  obtain ⟨⟨q0, q1, q2, q3, q4⟩, -⟩ := hX2.c5
  have hlt := hX.lt
  clear C hu1
  repeat' ((fail_if_success (with_reducible refine stop_append rfl ?_)); (fail_if_success (with_reducible refine stop_copy rfl ?_)); first | go_values | go_skip | go_guarded | go_step | go_upon | (simp only []; go_at_K))
  clear q0 q1 q2 q3 q4
  have hW : Wr ((w1.alloc (.cells #[.slice none 0 0] 93)).alloc (.cells #[.int .i64 x.k, .int .i64 x.s, .int .i64 x.r, .int .i64 x.t] 3)) w1.heap.size none 0 0 [] := ⟨(Blk.new _ _ _).alloc _, ((OwnB.nil _ _).alloc _).alloc _⟩
  have hR4 : Rd ((w1.alloc (.cells #[.slice none 0 0] 93)).alloc (.cells #[.int .i64 x.k, .int .i64 x.s, .int .i64 x.r, .int .i64 x.t] 3)) 1 (some ⟨w1.heap.size + 1, 0, none⟩) 4 (i64s ns) := by
    have := Rd.blk (w := ((w1.alloc (.cells #[.slice none 0 0] 93)).alloc (.cells #[.int .i64 x.k, .int .i64 x.s, .int .i64 x.r, .int .i64 x.t] 3))) (n := 4) (size := 1) (cs := i64s ns) (t := 3) (g := w1.heap.size + 1) (by rw [HN.out]; have := Blk.new (w1.alloc (.cells #[.slice none 0 0] 93)) 3 #[.int .i64 x.k, .int .i64 x.s, .int .i64 x.r, .int .i64 x.t]; rwa [World.size_alloc] at this) (by rw [HN.out]; rfl)
    exact this
  refine (alogLayN _ w1.heap.size none 0 0 [] _ 4 4 ns hW hR4 hns (by simp [ablk]) (by simp [ablk]) (by omega) (by simp)).mono ?_
  rintro e w2 ⟨rfl, A2, k2, c2, hw2, hu2⟩
  rw [List.nil_append] at hw2
  have U2 : Upd [] (w1.heap.size :: ablk A2) w w2 := (((U1.alloc _).alloc _).gives (b' := w1.heap.size :: ablk none) (by have := U1.size; simp [ablk]; omega)).trans hu2
  have hX3 := (hX2.alloc (.cells #[.int .i64 x.k, .int .i64 x.s, .int .i64 x.r, .int .i64 x.t] 3)).upd hu2 (by simp [ablk]; omega)
  obtain ⟨⟨q0, q1, q2, q3, q4⟩, -⟩ := hX3.c5
  clear hW hR4 hu2 hX hX2 U1
  repeat' ((fail_if_success (with_reducible refine stop_append rfl ?_)); (fail_if_success (with_reducible refine stop_copy rfl ?_)); first | go_values | go_skip | go_guarded | go_step | go_upon | (simp only []; go_at_K))
  clear q0 q1 q2 q3 q4
  refine (writerBytes w2 w1.heap.size A2 k2 c2 _ x.A x.n x.c x.b (hr.upd U2 (by simp)) ?_ hw2 (by rw [HNL.out] at hlb; omega)).mono ?_
  · intro h0 j hj hm
    have h1 := HLT.out h0 j hj
    rcases U2.fresh j hm with h2 | h2
    · cases h2
    · omega
  rintro e w3 ⟨rfl, A3, k3, c3, hw3, hu3⟩
  have U3 := U2.trans hu3
  clear U2 hu3 hw2 hX3
  repeat' ((fail_if_success (with_reducible refine stop_append rfl ?_)); (fail_if_success (with_reducible refine stop_copy rfl ?_)); first | go_values | go_skip | go_guarded | go_step | go_upon | (simp only []; go_at_K))
  refine (writerTold w3 w1.heap.size A3 k3 c3 _ hw3 ?_).mono ?_
  · have := leb_len (n := x.b.length) (U64.small (by omega)); rw [HNL.out] at hlb; simp only [List.length_append]; omega
  rintro e w4 ⟨A4, k4, c4, rfl, ho4, hu4⟩
  repeat' ((fail_if_success (with_reducible refine stop_append rfl ?_)); (fail_if_success (with_reducible refine stop_copy rfl ?_)); first | go_values | go_skip | go_guarded | go_step | go_upon | (simp only []; go_at_K))
  go_ret2
  rw [← HB.out] at ho4
  exact ⟨A4, k4, c4, rfl, ho4, (U3.gives (b' := []) (by simp)).trans hu4⟩
end Go.Proofs.Ytijhlbeipglieaa

/- Lists of lists of one length, flat. -/
namespace Go.Proofs.Ytijhlbeipglieaa
open Go Go.RowKit Agio

theorem flat_len {α β : Type} {f : α → List β} {s : Nat} (hs : ∀ x, (f x).length = s) (l : List α) : (l.flatMap f).length = l.length * s := by
  induction l with
  | nil => simp
  | cons x l ih => simp [hs, ih, Nat.add_mul, Nat.add_comm]
theorem flat_get {α β : Type} {f : α → List β} {s : Nat} (hs : ∀ x, (f x).length = s) (l : List α) : ∀ (i j : Nat) (hi : i < l.length), j < s → (l.flatMap f)[i * s + j]? = (f l[i])[j]? := by
  induction l with
  | nil => intro i j hi; simp at hi
  | cons x l ih =>
    intro i j hi hj
    rw [List.flatMap_cons]
    cases i with
    | zero => rw [List.getElem?_append_left (by rw [hs]; omega)]; simp
    | succ i =>
      have e : (i + 1) * s + j = s + (i * s + j) := by rw [Nat.add_mul]; omega
      rw [e, List.getElem?_append_right (by rw [hs]; omega), hs, Nat.add_sub_cancel_left]
      simpa using ih i j (by simpa using hi) hj

theorem fld (a : Addr) (m j : Nat) (hj : 0 < j) : (⟨(a.add m).block, (a.add m).off + j, none⟩ : Addr) = a.add (m + j) := by
  rw [← add_of_add]
  generalize a.add m = x
  unfold Addr.add; rw [if_neg (by omega)]
end Go.Proofs.Ytijhlbeipglieaa

/- Slices of structs, as they are read. -/
namespace Go.Proofs.Ytijhlbeipglieaa
open Go.RowKit Agio

/-- A slice whose elements have s cells each. -/
structure RdS {α : Type} (f : α → List Value) (s : Nat) (w : World) (A : Option Addr) (n : Nat) (l : List α) : Prop where
  len : n = l.length
  rd : Rd w s A n (l.flatMap f)
section
variable {α : Type} {f : α → List Value} {s : Nat} {w w' : World} {A : Option Addr} {n : Nat} {l : List α}
theorem RdS.upd {a b : List Nat} (h : RdS f s w A n l) (hu : Upd a b w w') (hd : ∀ k ∈ ablk A, k ∉ a) : RdS f s w' A n l := ⟨h.len, h.rd.upd hu hd⟩
theorem RdS.upd0 {b : List Nat} (h : RdS f s w A n l) (hu : Upd [] b w w') : RdS f s w' A n l := h.upd hu (by simp)
theorem RdS.drewN (h : RdS f s w A n l) (k : Nat) : RdS f s (w.drewN k) A n l := ⟨h.len, h.rd.drewN k⟩
theorem RdS.some_ (h : RdS f s w A n l) (hl : 0 < l.length) : ∃ ad, A = some ad := by
  obtain ⟨ad, e, _⟩ := h.rd.2 (by rw [h.len]; exact hl)
  exact ⟨ad, e⟩
theorem RdS.at_ (hs : ∀ x, (f x).length = s) (h : RdS f s w A n l) {i : Nat} (hi : i < l.length) : ∃ ad, A = some ad ∧ (∀ u, (f l[i])[0]? = some u → w.cell? (ad.add (i * s)) = some u) ∧
    ∀ j u, 0 < j → (f l[i])[j]? = some u → w.cell? ⟨(ad.add (i * s)).block, (ad.add (i * s)).off + j, none⟩ = some u := by
  obtain ⟨ad, e, hc⟩ := h.rd.2 (by rw [h.len]; omega)
  refine ⟨ad, e, fun u hu => ?_, fun j u hj hu => ?_⟩
  · have hl : 0 < s := by
      rcases Nat.eq_zero_or_pos s with h0 | h0
      · have := hs l[i]; rw [h0] at this; rw [List.eq_nil_of_length_eq_zero this] at hu; simp at hu
      · exact h0
    exact hc _ _ (by rw [← hu]; simpa using flat_get hs l i 0 hi hl)
  · have hl : j < s := by
      rcases Nat.lt_or_ge j s with h0 | h0
      · exact h0
      · rw [List.getElem?_eq_none (by rw [hs]; exact h0)] at hu; cases hu
    rw [fld _ _ _ hj]
    exact hc _ _ (by rw [← hu]; exact flat_get hs l i j hi hl)
theorem RdS.of (hs : ∀ x, (f x).length = s) (ad : Addr) (hc : ∀ i (hi : i < l.length) j u, (f l[i])[j]? = some u → w.cell? (ad.add (i * s + j)) = some u) : RdS f s w (some ad) l.length l := by
  refine ⟨rfl, by rw [flat_len hs], fun _ => ⟨ad, rfl, fun j u hu => ?_⟩⟩
  have hj : j < l.length * s := by
    rcases Nat.lt_or_ge j (l.length * s) with h | h
    · exact h
    · rw [List.getElem?_eq_none (by rw [flat_len hs]; exact h)] at hu; cases hu
  have h0 : 0 < s := by
    rcases Nat.eq_zero_or_pos s with h0 | h0
    · rw [h0] at hj; omega
    · exact h0
  have hi : j / s < l.length := Nat.div_lt_of_lt_mul (by rw [Nat.mul_comm]; exact hj)
  have hm := Nat.div_add_mod j s
  have hm' : j = j / s * s + j % s := by rw [Nat.mul_comm]; omega
  rw [hm'] at hu ⊢
  rw [flat_get hs l _ _ hi (Nat.mod_lt _ h0)] at hu
  exact hc _ hi _ _ hu
end
end Go.Proofs.Ytijhlbeipglieaa

/- Records: (agio/alog).Lay. -/
namespace Go.Proofs.Ytijhlbeipglieaa
open Go.RowKit Agio

/-- A slice of records, as it is read. -/
structure Rvs (w : World) (A : Option Addr) (n : Nat) (l : List Rv) : Prop where
  rd : RdS Rv.cells 5 w A n l
  each : ∀ x ∈ l, RdB w x.A x.n x.b
theorem Rvs.upd {w w' : World} {A : Option Addr} {n : Nat} {l : List Rv} {b : List Nat} (h : Rvs w A n l) (hu : Upd [] b w w') : Rvs w' A n l :=
  ⟨h.rd.upd0 hu, fun x hx => (h.each x hx).upd hu (by simp)⟩
theorem Rvs.len {w : World} {A : Option Addr} {n : Nat} {l : List Rv} (h : Rvs w A n l) : n = l.length := h.rd.len
theorem Rvs.at_ {w : World} {A : Option Addr} {n : Nat} {l : List Rv} (h : Rvs w A n l) {i : Nat} (hi : i < l.length) : ∃ ad, A = some ad ∧ w.cell? (ad.add (i * 5)) = some (.int .i64 l[i].k) ∧ w.cell? ⟨(ad.add (i * 5)).block, (ad.add (i * 5)).off + 1, none⟩ = some (.int .i64 l[i].s) ∧
    w.cell? ⟨(ad.add (i * 5)).block, (ad.add (i * 5)).off + 2, none⟩ = some (.int .i64 l[i].r) ∧ w.cell? ⟨(ad.add (i * 5)).block, (ad.add (i * 5)).off + 3, none⟩ = some (.int .i64 l[i].t) ∧ w.cell? ⟨(ad.add (i * 5)).block, (ad.add (i * 5)).off + 4, none⟩ = some (.slice l[i].A l[i].n l[i].c) := by
  obtain ⟨ad, e, h0, hj⟩ := h.rd.at_ Rv.cells_len hi
  exact ⟨ad, e, h0 _ rfl, hj 1 _ (by omega) rfl, hj 2 _ (by omega) rfl, hj 3 _ (by omega) rfl, hj 4 _ (by omega) rfl⟩
def rcs (l : List Rv) : List Rc := l.map Rv.rc
theorem rcs_take {l : List Rv} {i : Nat} (h : i < l.length) : layB (rcs (l.take (i + 1))) = layB (rcs (l.take i)) ++ put l[i].rc.bytes := by
  unfold rcs
  rw [List.take_succ_eq_append_getElem h, List.map_append, layB_append]; simp [layB]
theorem layB_take_le (l : List Rv) (i : Nat) : (layB (rcs (l.take i))).length ≤ (layB (rcs l)).length := by
  have : layB (rcs l) = layB (rcs (l.take i)) ++ layB (rcs (l.drop i)) := by unfold rcs; rw [← layB_append, ← List.map_append, List.take_append_drop]
  rw [this, List.length_append]; omega

set_option maxRecDepth 100000 in
set_option maxHeartbeats 2000000 in
theorem alogLay (w : World) (A : Option Addr) (n c : Nat) (l : List Rv) (hr : Rvs w A n l) (hm : ∀ x ∈ l, x.rc.May) (hn : n ≤ 140737488355328) (hb : (layB (rcs l)).length ≤ 140737488355328) :
    Calls Try.prog 47 #[.slice A n c] w fun e w' => ∃ A' k' c', e = .returned (.tuple #[.slice A' k' c', .int .i64 0]) ∧ OwnB 5 w' A' k' c' (layB (rcs l)) ∧ Upd [] (ablk A') w w' := by
  obtain rfl := hr.len
  go_enter Try.func47, Try.ntmps47
  repeat' ((fail_if_success (with_reducible refine stop_append rfl ?_)); (fail_if_success (with_reducible refine stop_copy rfl ?_)); first | go_values | go_skip | go_guarded | go_step | go_upon | (simp only []; go_at_K))
  go_loopw [4, 12] (fun v4 v12 wr => ∃ (i : Nat) (A1 : Option Addr) (k1 c1 : Nat), i ≤ l.length ∧ v12 = .int .i64 (i : Int) ∧ v4 = .slice A1 k1 c1 ∧ OwnB 5 wr A1 k1 c1 (layB (rcs (l.take i))) ∧ Upd [] (ablk A1) w wr)
    (fun _ v12 _ => l.length - (intOf v12).toNat)
  case atStart => exact ⟨0, none, 0, 0, by omega, rfl, rfl, OwnB.nil _ _, Upd.refl _ _⟩
  case round =>
    obtain ⟨i, A1, k1, c1, hi, rfl, rfl, ho, hu⟩ := hrel
    by_cases hlt : i < l.length
    · have hrr := hr.upd hu
      obtain ⟨ad, rfl, q0, q1, q2, q3, q4⟩ := hrr.at_ hlt
      have hxm := hm l[i] (List.getElem_mem hlt)
      have hxr := hrr.each l[i] (List.getElem_mem hlt)
      have HS := Lib.hid (rcs_take hlt)
      have hbl := layB_take_le l (i + 1)
      rw [HS.out, List.length_append] at hbl
      have hxl := hxm.len
      generalize l[i] = x at *
      have hxv := x.val_eq
      have C := alogEncode x (wr.alloc (.cells #[.int .i64 x.k, .int .i64 x.s, .int .i64 x.r, .int .i64 x.t, .slice x.A x.n x.c] 81)) (hxr.alloc _) hxm
      rw [hxv] at C
      clear hxv hr hm
      repeat' ((fail_if_success (with_reducible refine stop_append rfl ?_)); (fail_if_success (with_reducible refine stop_copy rfl ?_)); first | go_values | go_skip | go_guarded | go_step | go_upon | (simp only []; go_at_K))
      ((with_reducible refine C.mono ?_); rintro e w1 ⟨A2, k2, c2, rfl, ho2, hu2⟩)
      have hu2 : Upd [] (ablk A2) wr w1 := ((Upd.refl [] wr).alloc _).trans hu2
      have ho1 := ho.upd hu2 (by simp)
      clear q0 q1 q2 q3 q4 C ho
      repeat' ((fail_if_success (with_reducible refine stop_append rfl ?_)); (fail_if_success (with_reducible refine stop_copy rfl ?_)); first | go_values | go_skip | go_guarded | go_step | go_upon | (simp only []; go_at_K))
      ((with_reducible refine (framePut w1 A2 k2 c2 _ ho2.rd (by omega)).mono ?_); rintro e w2 ⟨A3, k3, c3, rfl, ho3, hu3⟩)
      have ho1' := ho1.upd hu3 (by simp)
      have U3 : Upd [] (ablk A1) w w2 := (hu.trans (hu2.up _)).trans (hu3.up _)
      clear ho1 ho2 hu2 hu3 hu
      repeat' ((fail_if_success (with_reducible refine stop_append rfl ?_)); (fail_if_success (with_reducible refine stop_copy rfl ?_)); first | go_values | go_skip | go_guarded | go_step | go_upon | (simp only []; go_at_K))
      refine wpList_appB rfl _ _ 23 rfl 5 Try.underlying23 infoU8 ho1' rfl ho3.rd rfl (by omega) ?_
      intro A4 k4 c4 w4 ho4 hu4
      have U4 := U3.trans hu4
      rw [← HS.out] at ho4
      clear ho1' ho3 hu4
      repeat' ((fail_if_success (with_reducible refine stop_append rfl ?_)); (fail_if_success (with_reducible refine stop_copy rfl ?_)); first | go_values | go_skip | go_guarded | go_step | go_upon | (simp only []; go_at_K))
      exact ⟨⟨i + 1, A4, k4, c4, by omega, by simp, rfl, ho4, U4⟩, by simp [intOf]; omega⟩
    · obtain rfl : i = l.length := by omega
      rw [List.take_length] at ho
      repeat' ((fail_if_success (with_reducible refine stop_append rfl ?_)); (fail_if_success (with_reducible refine stop_copy rfl ?_)); first | go_values | go_skip | go_guarded | go_step | go_upon | (simp only []; go_at_K))
      go_ret2
      exact ⟨A1, k1, c1, rfl, ho, hu⟩
end Go.Proofs.Ytijhlbeipglieaa
