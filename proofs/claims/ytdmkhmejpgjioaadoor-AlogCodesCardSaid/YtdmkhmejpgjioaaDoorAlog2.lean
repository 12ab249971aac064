/- Records: (agio/alog).lay, Encode. -/
import Derived.Test.YtdmkhmejpgjioaaDoorAlog
import Derived.Test.YtdmkhmejpgjioaaDoorLebs
set_option linter.all false
namespace Go.Proofs.YtdmkhmejpgjioaaDoor
open Go.RowKit Agio

set_option maxRecDepth 100000 in
set_option maxHeartbeats 1000000 in
theorem alogLayN (w : World) (g : Nat) (A : Option Addr) (k c : Nat) (l : List UInt8) (B : Option Addr) (m d : Nat) (ns : List Nat) (hw : Wr w g A k c l) (hr : Rd w 1 B m (i64s ns)) (hI : ∀ n ∈ ns, n ≤ 9223372036854775807) (hB : ∀ j ∈ ablk B, j ∉ g :: ablk A) (hBl : ∀ j ∈ ablk B, j < w.heap.size) (hm : m ≤ 1000) (hl : l.length ≤ 100000000) :
    Calls Tryd.prog 46 #[.pointer (some ⟨g, 0, none⟩), .slice B m d] w fun e w' => e = .returned (.tuple #[]) ∧ ∃ A' k' c', Wr w' g A' k' c' (l ++ ns.flatMap leb) ∧ Upd (g :: ablk A) (g :: ablk A') w w' := by
  have hn : ns.length = m := by have := hr.1; simpa [i64s] using this
  subst hn
  have hU : ∀ n ∈ ns, U64 n := fun n hn => U64.small (by have := hI n hn; omega)
  have hlen := lebs_take_len hU
  go_enter Tryd.func46, Tryd.ntmps46
  repeat' ((fail_if_success (with_reducible refine stop_append rfl ?_)); (fail_if_success (with_reducible refine stop_copy rfl ?_)); first | go_values | go_skip | go_guarded | go_step | go_upon | (simp only []; go_at_K))
  go_loopw [8] (fun v8 wr => ∃ (i : Nat) (A2 : Option Addr) (k2 c2 : Nat), i ≤ ns.length ∧ v8 = .int .i64 (i : Int) ∧ Wr wr g A2 k2 c2 (l ++ (ns.take i).flatMap leb) ∧ Upd (g :: ablk A) (g :: ablk A2) w wr)
    (fun v8 _ => ns.length - (intOf v8).toNat)
  case atStart => exact ⟨0, A, k, c, by omega, rfl, by simpa using hw, Upd.refl _ _⟩
  case round =>
    obtain ⟨i, A2, k2, c2, hi, rfl, hw2, hu⟩ := hrel
    have hli := hlen i
    by_cases hlt : i < ns.length
    · have hrr := hr.upd hu hB
      obtain ⟨ad, u, rfl, hx, hcell⟩ := Rd.at_ hrr (k := i) hlt
      rw [i64s_get ns i hlt] at hx
      obtain rfl := Option.some.inj hx
      have HS := Lib.hid (lebs_take hlt)
      have hxI := hI ns[i] (List.getElem_mem hlt)
      have hxU := hU ns[i] (List.getElem_mem hlt)
      generalize ns[i] = x at *
      have hx0 : (0 : Int) ≤ (x : Int) := by omega
      have hx1 : (x : Int) ≤ 9223372036854775807 := by omega
      have hw64 : IntKind.u64.wrap (x : Int) = (x : Int) := by rw [IntKind.wrap_u64]; omega
      clear hx hr
      repeat' ((fail_if_success (with_reducible refine stop_append rfl ?_)); (fail_if_success (with_reducible refine stop_copy rfl ?_)); first | go_values | go_skip | go_guarded | go_step | go_upon | (simp only []; go_at_K))
      refine (writerUint (x : Int) wr g A2 k2 c2 _ (by omega) (by simpa using hxU) hw2 (by simp only [List.length_append]; omega)).mono ?_
      rintro e w3 ⟨rfl, A3, k3, c3, hw3, hu3⟩
      rw [Int.toNat_natCast, List.append_assoc, ← HS.out] at hw3
      repeat' ((fail_if_success (with_reducible refine stop_append rfl ?_)); (fail_if_success (with_reducible refine stop_copy rfl ?_)); first | go_values | go_skip | go_guarded | go_step | go_upon | (simp only []; go_at_K))
      exact ⟨⟨i + 1, A3, k3, c3, by omega, rfl, hw3, hu.trans hu3⟩, by simp [intOf]; omega⟩
    · obtain rfl : i = ns.length := by omega
      rw [List.take_length] at hw2
      repeat' ((fail_if_success (with_reducible refine stop_append rfl ?_)); (fail_if_success (with_reducible refine stop_copy rfl ?_)); first | go_values | go_skip | go_guarded | go_step | go_upon | (simp only []; go_at_K))
      go_end0
      exact ⟨rfl, A2, k2, c2, hw2, hu⟩

set_option maxRecDepth 100000 in
set_option maxHeartbeats 2000000 in
theorem alogEncode_no (x : Rv) (w : World) (hr : RdB w x.A x.n x.b) (hm : ¬ x.rc.May) :
    Calls Tryd.prog 15 #[x.val] w fun e w' => e = .returned (.tuple #[.slice none 0 0, .int .i64 1]) ∧ Upd [] [] w w' := by
  have C := fun w hr => alogMay_no x w hr hm
  have HR : Hid (∀ o, RdB (w.alloc o) x.A x.n x.b) := fun o => hr.alloc o
  rw [Rv.val_eq] at C ⊢
  clear hr hm
  go_enter Tryd.func15, Tryd.ntmps15
  repeat' ((fail_if_success (with_reducible refine stop_append rfl ?_)); (fail_if_success (with_reducible refine stop_copy rfl ?_)); first | go_values | go_skip | go_guarded | go_step | go_upon | (simp only []; go_at_K))
  refine (C _ (HR.out _)).mono ?_
  rintro e w1 ⟨rfl, hu1⟩
  repeat' ((fail_if_success (with_reducible refine stop_append rfl ?_)); (fail_if_success (with_reducible refine stop_copy rfl ?_)); first | go_values | go_skip | go_guarded | go_step | go_upon | (simp only []; go_at_K))
  go_ret2
  exact ⟨rfl, ((Upd.refl _ _).alloc _).trans hu1⟩

set_option maxRecDepth 100000 in
set_option maxHeartbeats 2000000 in
theorem alogEncode (x : Rv) (w : World) (hr : RdB w x.A x.n x.b) (hm : x.rc.May) :
    Calls Tryd.prog 15 #[x.val] w fun e w' => ∃ A' k' c', e = .returned (.tuple #[.slice A' k' c', .int .i64 0]) ∧ OwnB 5 w' A' k' c' x.rc.bytes ∧ Upd [] (ablk A') w w' := by
  have C := fun w hr => alogMay_yes x w hr hm
  have h1 := hm.kind
  have h2 := hm.slot
  have h3 := hm.round
  have h4 := hm.site
  have hU := hm.U
  have hv := hm.val
  have HB : Hid (x.rc.bytes = x.rc.ns.flatMap leb ++ leb x.b.length ++ x.b) := by unfold Hid Rc.bytes bodyB; rw [List.append_assoc]; rfl
  have HN : Hid (i64s x.rc.ns = [.int .i64 x.k, .int .i64 x.s, .int .i64 x.r, .int .i64 x.t]) := by
    unfold Hid i64s Rc.ns
    simp only [Rv.rc] at h1 h2 h3 h4 ⊢
    simp only [List.map_cons, List.map_nil, List.cons.injEq, Value.int.injEq, true_and, and_true]
    omega
  have hnl : x.rc.ns.length = 4 := rfl
  have HNL := Lib.hid hnl; clear hnl
  have hns : ∀ n ∈ x.rc.ns, n ≤ 9223372036854775807 := by
    intro n hn
    simp only [Rv.rc] at h1 h2 h3 h4
    simp only [Rc.ns, Rv.rc, List.mem_cons, List.not_mem_nil, or_false] at hn
    rcases hn with rfl | rfl | rfl | rfl <;> omega
  have hvl : x.b.length ≤ 2048 := hv
  have hlb := lebs_len hU
  have HLT := Lib.hid hr.lt
  generalize x.rc.ns = ns at *
  rw [Rv.val_eq] at C ⊢
  clear h1 h2 h3 h4 hm hv
  go_enter Tryd.func15, Tryd.ntmps15
  repeat' ((fail_if_success (with_reducible refine stop_append rfl ?_)); (fail_if_success (with_reducible refine stop_copy rfl ?_)); first | go_values | go_skip | go_guarded | go_step | go_upon | (simp only []; go_at_K))
  refine (C _ (hr.alloc _)).mono ?_
  rintro e w1 ⟨rfl, hu1⟩
  have hX := (Blk.new w 44 #[.int .i64 x.k, .int .i64 x.s, .int .i64 x.r, .int .i64 x.t, .slice x.A x.n x.c]).upd hu1 (by simp)
  have U1 : Upd [] [] w w1 := ((Upd.refl _ _).alloc _).trans hu1
  have hX2 := hX.alloc (.cells #[.slice none 0 0] 69)
  obtain ⟨⟨q0, q1, q2, q3, q4⟩, -⟩ := hX2.c5
  have hlt := hX.lt
  clear C hu1
  repeat' ((fail_if_success (with_reducible refine stop_append rfl ?_)); (fail_if_success (with_reducible refine stop_copy rfl ?_)); first | go_values | go_skip | go_guarded | go_step | go_upon | (simp only []; go_at_K))
  clear q0 q1 q2 q3 q4
  have hW : Wr ((w1.alloc (.cells #[.slice none 0 0] 69)).alloc (.cells #[.int .i64 x.k, .int .i64 x.s, .int .i64 x.r, .int .i64 x.t] 3)) w1.heap.size none 0 0 [] := ⟨(Blk.new _ _ _).alloc _, ((OwnB.nil _ _).alloc _).alloc _⟩
  have hR4 : Rd ((w1.alloc (.cells #[.slice none 0 0] 69)).alloc (.cells #[.int .i64 x.k, .int .i64 x.s, .int .i64 x.r, .int .i64 x.t] 3)) 1 (some ⟨w1.heap.size + 1, 0, none⟩) 4 (i64s ns) := by
    have := Rd.blk (w := ((w1.alloc (.cells #[.slice none 0 0] 69)).alloc (.cells #[.int .i64 x.k, .int .i64 x.s, .int .i64 x.r, .int .i64 x.t] 3))) (n := 4) (size := 1) (cs := i64s ns) (t := 3) (g := w1.heap.size + 1) (by rw [HN.out]; have := Blk.new (w1.alloc (.cells #[.slice none 0 0] 69)) 3 #[.int .i64 x.k, .int .i64 x.s, .int .i64 x.r, .int .i64 x.t]; rwa [World.size_alloc] at this) (by rw [HN.out]; rfl)
    exact this
  refine (alogLayN _ w1.heap.size none 0 0 [] _ 4 4 ns hW hR4 hns (by simp [ablk]) (by simp [ablk]) (by omega) (by simp)).mono ?_
  rintro e w2 ⟨rfl, A2, k2, c2, hw2, hu2⟩
  rw [List.nil_append] at hw2
  have U2 : Upd [] (w1.heap.size :: ablk A2) w w2 := (((U1.alloc _).alloc _).gives (b' := w1.heap.size :: ablk none) (by have := U1.size; simp [ablk]; omega)).trans hu2
  have hX3 := (hX2.alloc (.cells #[.int .i64 x.k, .int .i64 x.s, .int .i64 x.r, .int .i64 x.t] 3)).upd hu2 (by simp [ablk]; omega)
  obtain ⟨⟨q0, q1, q2, q3, q4⟩, -⟩ := hX3.c5
  clear hW hR4 hu2 hX hX2 U1
  repeat' ((fail_if_success (with_reducible refine stop_append rfl ?_)); (fail_if_success (with_reducible refine stop_copy rfl ?_)); first | go_values | go_skip | go_guarded | go_step | go_upon | (simp only []; go_at_K))
  clear q0 q1 q2 q3 q4
  refine (writerBytes w2 w1.heap.size A2 k2 c2 _ x.A x.n x.c x.b (hr.upd U2 (by simp)) ?_ hw2 (by rw [HNL.out] at hlb; omega)).mono ?_
  · intro h0 j hj hm
    have h1 := HLT.out h0 j hj
    rcases U2.fresh j hm with h2 | h2
    · cases h2
    · omega
  rintro e w3 ⟨rfl, A3, k3, c3, hw3, hu3⟩
  have U3 := U2.trans hu3
  clear U2 hu3 hw2 hX3
  repeat' ((fail_if_success (with_reducible refine stop_append rfl ?_)); (fail_if_success (with_reducible refine stop_copy rfl ?_)); first | go_values | go_skip | go_guarded | go_step | go_upon | (simp only []; go_at_K))
  refine (writerTold w3 w1.heap.size A3 k3 c3 _ hw3 ?_).mono ?_
  · have := leb_len (n := x.b.length) (U64.small (by omega)); rw [HNL.out] at hlb; simp only [List.length_append]; omega
  rintro e w4 ⟨A4, k4, c4, rfl, ho4, hu4⟩
  repeat' ((fail_if_success (with_reducible refine stop_append rfl ?_)); (fail_if_success (with_reducible refine stop_copy rfl ?_)); first | go_values | go_skip | go_guarded | go_step | go_upon | (simp only []; go_at_K))
  go_ret2
  rw [← HB.out] at ho4
  exact ⟨A4, k4, c4, rfl, ho4, (U3.gives (b' := []) (by simp)).trans hu4⟩
end Go.Proofs.YtdmkhmejpgjioaaDoor
