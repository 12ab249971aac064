/- Messages: agioref13.fields, Encode. -/
import Derived.Test.YtdmkhmejpgjioaaDoorRef13
import Derived.Test.YtdmkhmejpgjioaaDoorFrame
import Derived.Test.YtdmkhmejpgjioaaDoorLebs
set_option linter.all false
namespace Go.Proofs.YtdmkhmejpgjioaaDoor
open Go.RowKit Agio

theorem ns_vals {x : Mv} (hm : x.ms.May) : i64s x.ms.ns = [.int .i64 x.k, .int .i64 x.f, .int .i64 x.t, .int .i64 x.s, .int .i64 x.br, .int .i64 x.bs, .int .i64 x.hr, .int .i64 x.hs, .int .i64 (x.ms.is : Int)] := by
  have h1 := hm.kind; have h2 := hm.frm; have h3 := hm.to; have h4 := hm.slot; have h5 := hm.bround; have h6 := hm.bsite; have h7 := hm.hround; have h8 := hm.hsite
  simp only [Mv.ms] at h1 h2 h3 h4 h5 h6 h7 h8
  simp only [i64s, Ms.ns, Mv.ms, List.map_cons, List.map_nil, List.cons.injEq, Value.int.injEq, true_and, and_true]
  omega

theorem ns_small {m : Ms} (h : m.May) : ∀ n ∈ m.ns, n ≤ 1099511627776 := by
  have h1 := h.kind; have h2 := h.frm; have h3 := h.to; have h4 := h.slot; have h5 := h.bround; have h6 := h.bsite; have h7 := h.hround; have h8 := h.hsite; have h9 := m.is_le
  intro n hn
  simp only [Ms.ns, List.mem_cons, List.not_mem_nil, or_false] at hn
  rcases hn with rfl | rfl | rfl | rfl | rfl | rfl | rfl | rfl | rfl <;> omega
set_option maxRecDepth 100000 in
set_option maxHeartbeats 4000000 in
theorem ref13Fields (x : Mv) (w : World) (hm : x.ms.May) :
    Calls Tryd.prog 62 #[x.val] w fun e w' => ∃ ad c, e = .returned (.slice (some ad) 9 c) ∧ Rd w' 1 (some ad) 9 (i64s x.ms.ns) ∧ Upd [] [] w w' := by
  have hv := ns_vals hm
  have hU := fun o o' => ((Upd.refl [] w).alloc o).alloc o'
  have HB : Hid (∀ W : World, Rd (W.alloc (.cells #[.int .i64 x.k, .int .i64 x.f, .int .i64 x.t, .int .i64 x.s, .int .i64 x.br, .int .i64 x.bs, .int .i64 x.hr, .int .i64 x.hs, .int .i64 (x.ms.is : Int)] 3)) 1 (some ⟨W.heap.size, 0, none⟩) 9 (i64s x.ms.ns)) := fun W => by
    rw [hv]
    exact Rd.blk (cs := [.int .i64 x.k, .int .i64 x.f, .int .i64 x.t, .int .i64 x.s, .int .i64 x.br, .int .i64 x.bs, .int .i64 x.hr, .int .i64 x.hs, .int .i64 (x.ms.is : Int)]) (Blk.new _ _ _) rfl
  clear hv hm
  obtain ⟨k, f, t, s, br, bs, hr, hs, so, A, n, c, b⟩ := x
  rw [Mv.val_eq]
  cases so with
  | false =>
    have HB1 : Hid (∀ W : World, Rd (W.alloc (.cells #[.int .i64 k, .int .i64 f, .int .i64 t, .int .i64 s, .int .i64 br, .int .i64 bs, .int .i64 hr, .int .i64 hs, .int .i64 0] 3)) 1 (some ⟨W.heap.size, 0, none⟩) 9 (i64s (⟨k, f, t, s, br, bs, hr, hs, false, A, n, c, b⟩ : Mv).ms.ns)) := HB
    clear HB
    go_enter Tryd.func62, Tryd.ntmps62
    repeat' ((fail_if_success (with_reducible refine stop_append rfl ?_)); (fail_if_success (with_reducible refine stop_copy rfl ?_)); first | go_values | go_skip | go_guarded | go_step | go_upon | (simp only []; go_at_K))
    go_ret
    have hb1 := HB1.out (w.alloc (.cells #[.int .i64 k, .int .i64 f, .int .i64 t, .int .i64 s, .int .i64 br, .int .i64 bs, .int .i64 hr, .int .i64 hs, .bool false, .slice A n c] 56))
    rw [World.size_alloc] at hb1
    exact ⟨_, _, rfl, hb1, hU _ _⟩
  | true =>
    have HB1 : Hid (∀ W : World, Rd (W.alloc (.cells #[.int .i64 k, .int .i64 f, .int .i64 t, .int .i64 s, .int .i64 br, .int .i64 bs, .int .i64 hr, .int .i64 hs, .int .i64 1] 3)) 1 (some ⟨W.heap.size, 0, none⟩) 9 (i64s (⟨k, f, t, s, br, bs, hr, hs, true, A, n, c, b⟩ : Mv).ms.ns)) := HB
    clear HB
    go_enter Tryd.func62, Tryd.ntmps62
    repeat' ((fail_if_success (with_reducible refine stop_append rfl ?_)); (fail_if_success (with_reducible refine stop_copy rfl ?_)); first | go_values | go_skip | go_guarded | go_step | go_upon | (simp only []; go_at_K))
    go_ret
    have hb1 := HB1.out (w.alloc (.cells #[.int .i64 k, .int .i64 f, .int .i64 t, .int .i64 s, .int .i64 br, .int .i64 bs, .int .i64 hr, .int .i64 hs, .bool true, .slice A n c] 56))
    rw [World.size_alloc] at hb1
    exact ⟨_, _, rfl, hb1, hU _ _⟩

set_option maxRecDepth 100000 in
set_option maxHeartbeats 4000000 in
theorem ref13Encode_no (x : Mv) (w : World) (hr : RdB w x.A x.n x.b) (hm : ¬ x.ms.May) :
    Calls Tryd.prog 22 #[x.val] w fun e w' => e = .returned (.tuple #[.slice none 0 0, .int .i64 1]) ∧ Upd [] [] w w' := by
  have C := ref13May x (w.alloc (.cells #[.int .i64 x.k, .int .i64 x.f, .int .i64 x.t, .int .i64 x.s, .int .i64 x.br, .int .i64 x.bs, .int .i64 x.hr, .int .i64 x.hs, .bool x.so, .slice x.A x.n x.c] 56)) (hr.alloc _)
  rw [Mv.val_eq] at C ⊢
  go_enter Tryd.func22, Tryd.ntmps22
  repeat' ((fail_if_success (with_reducible refine stop_append rfl ?_)); (fail_if_success (with_reducible refine stop_copy rfl ?_)); first | go_values | go_skip | go_guarded | go_step | go_upon | (simp only []; go_at_K))
  ((with_reducible refine C.mono ?_); rintro e w1 ⟨⟨v, rfl, hv⟩, hu1⟩)
  obtain rfl : v = false := by
    cases v with
    | false => rfl
    | true => exact absurd (hv.1 rfl) hm
  clear C hv
  repeat' ((fail_if_success (with_reducible refine stop_append rfl ?_)); (fail_if_success (with_reducible refine stop_copy rfl ?_)); first | go_values | go_skip | go_guarded | go_step | go_upon | (simp only []; go_at_K))
  go_ret2
  exact ⟨rfl, ((Upd.refl [] w).alloc _).trans hu1⟩

set_option maxRecDepth 100000 in
set_option maxHeartbeats 4000000 in
theorem ref13Encode (x : Mv) (w : World) (hr : RdB w x.A x.n x.b) (hm : x.ms.May) :
    Calls Tryd.prog 22 #[x.val] w fun e w' => ∃ A' k' c', e = .returned (.tuple #[.slice A' k' c', .int .i64 0]) ∧ OwnB 5 w' A' k' c' x.ms.bytes ∧ Upd [] (ablk A') w w' := by
  have hUn := hm.U
  have hil := hm.ilen
  have hUs := ns_small hm
  have hvl := hm.val
  have HI : Hid (x.ms.inside = x.ms.ns.flatMap leb ++ (leb x.b.length ++ x.b)) := Lib.hid rfl
  have HBY : Hid (put x.ms.inside = x.ms.bytes) := Lib.hid rfl
  have hlb := fun i => lebs_take_len hUn i
  have hn9 : x.ms.ns.length = 9 := rfl
  have lB := leb_len (n := x.b.length) (by simp only [Mv.ms] at hvl; unfold U64; omega)
  have hvl2 : x.b.length ≤ 2048 := hvl
  have C := ref13May x (w.alloc (.cells #[.int .i64 x.k, .int .i64 x.f, .int .i64 x.t, .int .i64 x.s, .int .i64 x.br, .int .i64 x.bs, .int .i64 x.hr, .int .i64 x.hs, .bool x.so, .slice x.A x.n x.c] 56)) (hr.alloc _)
  have F := fun w => ref13Fields x w hm
  rw [Mv.val_eq] at C F ⊢
  have hX := Blk.new w 56 #[.int .i64 x.k, .int .i64 x.f, .int .i64 x.t, .int .i64 x.s, .int .i64 x.br, .int .i64 x.bs, .int .i64 x.hr, .int .i64 x.hs, .bool x.so, .slice x.A x.n x.c]
  have U0 := (Upd.refl [] w).alloc (.cells #[.int .i64 x.k, .int .i64 x.f, .int .i64 x.t, .int .i64 x.s, .int .i64 x.br, .int .i64 x.bs, .int .i64 x.hr, .int .i64 x.hs, .bool x.so, .slice x.A x.n x.c] 56)
  go_enter Tryd.func22, Tryd.ntmps22
  repeat' ((fail_if_success (with_reducible refine stop_append rfl ?_)); (fail_if_success (with_reducible refine stop_copy rfl ?_)); first | go_values | go_skip | go_guarded | go_step | go_upon | (simp only []; go_at_K))
  ((with_reducible refine C.mono ?_); rintro e w1 ⟨⟨v, rfl, hv⟩, hu1⟩)
  obtain rfl : v = true := hv.2 hm
  have U1 := U0.trans hu1
  have hX1 := hX.upd hu1 (by simp)
  clear C hv hm U0 hu1 hX
  obtain ⟨⟨q0, q1, q2, q3, q4, q5, q6, q7, q8, q9⟩, -⟩ := hX1.c10
  repeat' ((fail_if_success (with_reducible refine stop_append rfl ?_)); (fail_if_success (with_reducible refine stop_copy rfl ?_)); first | go_values | go_skip | go_guarded | go_step | go_upon | (simp only []; go_at_K))
  ((with_reducible refine (F w1).mono ?_); rintro e w2 ⟨ad, c2, rfl, hrd, hu2⟩)
  have U2 := U1.trans hu2
  have hX2 := hX1.upd hu2 (by simp)
  generalize x.ms.ns = ns at *
  clear F U1 hu2 hX1 q0 q1 q2 q3 q4 q5 q6 q7 q8 q9 hil
  repeat' ((fail_if_success (with_reducible refine stop_append rfl ?_)); (fail_if_success (with_reducible refine stop_copy rfl ?_)); first | go_values | go_skip | go_guarded | go_step | go_upon | (simp only []; go_at_K))
  go_loopw [4, 6] (fun v4 v6 wr => ∃ (i : Nat) (A1 : Option Addr) (k1 c1 : Nat), i ≤ 9 ∧ v6 = .int .i64 (i : Int) ∧ v4 = .slice A1 k1 c1 ∧ OwnB 5 wr A1 k1 c1 ((ns.take i).flatMap leb) ∧ Upd [] (ablk A1) w2 wr)
    (fun _ v6 _ => 9 - (intOf v6).toNat)
  case atStart => exact ⟨0, none, 0, 0, by omega, rfl, rfl, OwnB.nil _ _, Upd.refl _ _⟩
  case round =>
    obtain ⟨i, A1, k1, c1, hi, rfl, rfl, ho, hu⟩ := hrel
    by_cases hlt : i < 9
    · have hin : i < ns.length := by omega
      have hrr := hrd.upd hu (by simp)
      obtain ⟨ad', u, ha, hg, hc⟩ := hrr.at_ (k := i) (by omega)
      obtain rfl : ad = ad' := by injection ha
      rw [i64s_get ns i hin] at hg
      obtain rfl := Option.some.inj hg
      have hUi := hUn _ (List.getElem_mem hin)
      have hUz := hUs _ (List.getElem_mem hin)
      have HS := Lib.hid (lebs_take hin)
      have hli := hlb (i + 1)
      have hlen1 := leb_len hUi
      rw [HS.out, List.length_append] at hli
      generalize ns[i] = z at *
      have HU := Lib.hid hUi
      clear hUi
      clear hg ha hrr
      have hli2 : (List.flatMap leb (List.take i ns)).length + (leb z).length ≤ 90 := by omega
      repeat' ((fail_if_success (with_reducible refine stop_append rfl ?_)); (fail_if_success (with_reducible refine stop_copy rfl ?_)); first | go_values | go_skip | go_guarded | go_step | go_upon | (simp only []; go_at_K))
      ((with_reducible refine (refUint_any _ _ (by omega) (by simpa using HU.out)).mono ?_); rintro e v2 ⟨B2, j2, d2, rfl, hp2, hv2⟩)
      simp only [Int.toNat_natCast] at hp2
      have ho' := ho.upd hv2 (by simp)
      have V : Upd [] (ablk A1) w2 v2 := hu.trans (hv2.up _)
      clear ho hu hv2 hc
      repeat' ((fail_if_success (with_reducible refine stop_append rfl ?_)); (fail_if_success (with_reducible refine stop_copy rfl ?_)); first | go_values | go_skip | go_guarded | go_step | go_upon | (simp only []; go_at_K))
      refine wpList_appB rfl _ _ 24 rfl 5 Tryd.underlying24 infoU8 ho' rfl hp2.rd rfl (by omega) ?_
      intro A4 k4 c4 w4 ho4 hu4
      rw [← HS.out] at ho4
      have V4 := V.trans hu4
      clear ho' V hu4 hp2
      repeat' ((fail_if_success (with_reducible refine stop_append rfl ?_)); (fail_if_success (with_reducible refine stop_copy rfl ?_)); first | go_values | go_skip | go_guarded | go_step | go_upon | (simp only []; go_at_K))
      exact ⟨⟨i + 1, A4, k4, c4, by omega, by simp, rfl, ho4, V4⟩, by simp [intOf]; omega⟩
    · obtain rfl : i = 9 := by omega
      have h9 := hlb 9
      have ht9 : ns.take 9 = ns := List.take_of_length_le (by omega)
      rw [ht9] at ho h9
      have hXr := hX2.upd hu (by simp)
      have Ur := U2.trans hu
      have hrr := hr.upd Ur (by simp)
      have hlX := hX2.lt
      obtain ⟨⟨q0, q1, q2, q3, q4, q5, q6, q7, q8, q9⟩, -⟩ := hXr.c10
      clear hu U2 hX2 hXr ht9 hlb
      repeat' ((fail_if_success (with_reducible refine stop_append rfl ?_)); (fail_if_success (with_reducible refine stop_copy rfl ?_)); first | go_values | go_skip | go_guarded | go_step | go_upon | (simp only []; go_at_K))
      ((with_reducible refine (refBytes wr x.A x.n x.c x.b hrr (by omega)).mono ?_); rintro e v2 ⟨B2, j2, d2, rfl, hp2, hv2⟩)
      have ho' := ho.upd hv2 (by simp)
      have V : Upd [] (ablk A1) w v2 := Ur.trans (hv2.up _)
      clear ho Ur hv2 q0 q1 q2 q3 q4 q5 q6 q7 q8 q9 hrr
      repeat' ((fail_if_success (with_reducible refine stop_append rfl ?_)); (fail_if_success (with_reducible refine stop_copy rfl ?_)); first | go_values | go_skip | go_guarded | go_step | go_upon | (simp only []; go_at_K))
      refine wpList_appB rfl _ _ 24 rfl 5 Tryd.underlying24 infoU8 ho' rfl hp2.rd rfl (by simp only [List.length_append]; omega) ?_
      intro A4 k4 c4 w4 ho4 hu4
      have V4 := (V.trans hu4).gives (b' := []) (by simp)
      rw [← HI.out] at ho4
      have hil : x.ms.inside.length ≤ 4096 := by rw [HI.out]; simp only [List.length_append]; omega
      clear ho' V hu4 hp2
      repeat' ((fail_if_success (with_reducible refine stop_append rfl ?_)); (fail_if_success (with_reducible refine stop_copy rfl ?_)); first | go_values | go_skip | go_guarded | go_step | go_upon | (simp only []; go_at_K))
      ((with_reducible refine (refPut_ok w4 A4 k4 c4 _ ho4.rd hil).mono ?_); rintro e w5 ⟨A5, k5, c5, rfl, ho5, hu5⟩)
      rw [HBY.out] at ho5
      repeat' ((fail_if_success (with_reducible refine stop_append rfl ?_)); (fail_if_success (with_reducible refine stop_copy rfl ?_)); first | go_values | go_skip | go_guarded | go_step | go_upon | (simp only []; go_at_K))
      go_ret2
      exact ⟨A5, k5, c5, rfl, ho5, V4.trans hu5⟩
end Go.Proofs.YtdmkhmejpgjioaaDoor
