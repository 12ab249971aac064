/- Commands: agioref05.Encode, its May by its contract. -/
import Derived.Test.YtmnoahglajilhaaDoorRef05
import Derived.Test.YtmnoahglajilhaaDoorZig
import Derived.Test.YtmnoahglajilhaaDoorBase2
set_option linter.all false
namespace Go.Proofs.YtmnoahglajilhaaDoor
open Go.RowKit Agio

set_option maxRecDepth 100000 in
set_option maxHeartbeats 4000000 in
theorem ref05Encode_bad (c : Cm) (hm : c.may = false) (C : ∀ w, Calls Tryd.prog 12 #[c.val] w fun e w' => e = .returned (.int .i64 c.err) ∧ Upd [] [] w w') (w : World) :
    Calls Tryd.prog 8 #[c.val] w fun e w' => e = .returned (.tuple #[.slice none 0 0, .int .i64 1]) ∧ Upd [] [] w w' := by
  have E : c.err = 1 := by simp [Cm.err, hm]
  simp only [E] at C
  clear hm E
  obtain ⟨k, cl, sq, tm, s, a, p, q, i⟩ := c
  simp only [Cm.val] at C ⊢
  go_enter Tryd.func8, Tryd.ntmps8
  repeat' ((fail_if_success (with_reducible refine stop_append rfl ?_)); (fail_if_success (with_reducible refine stop_copy rfl ?_)); first | go_values | go_skip | go_guarded | go_step | go_upon | (simp only []; go_at_K))
  refine (C _).mono ?_
  rintro e w1 ⟨rfl, hu1⟩
  clear C
  repeat' ((fail_if_success (with_reducible refine stop_append rfl ?_)); (fail_if_success (with_reducible refine stop_copy rfl ?_)); first | go_values | go_skip | go_guarded | go_step | go_upon | (simp only []; go_at_K))
  go_ret2
  exact ⟨rfl, ((Upd.refl _ _).alloc _).trans hu1⟩

set_option maxRecDepth 100000 in
set_option maxHeartbeats 4000000 in
theorem ref05Encode_ok (c : Cm) (hm : c.may = true) (hI : c.I) (C : ∀ w, Calls Tryd.prog 12 #[c.val] w fun e w' => e = .returned (.int .i64 c.err) ∧ Upd [] [] w w') (w : World) :
    Calls Tryd.prog 8 #[c.val] w fun e w' => ∃ A k' c', e = .returned (.tuple #[.slice A k' c', .int .i64 0]) ∧ OwnB 5 w' A k' c' c.bytes ∧ Upd [] (ablk A) w w' := by
  have E : c.err = 0 := by simp [Cm.err, hm]
  simp only [E] at C
  obtain ⟨⟨hk0, hk1⟩, hc0, hc1⟩ := Cm.may_k hm
  have ht := hI.tail
  have HB : Hid (c.bytes = leb c.k.toNat ++ leb c.cl.toNat ++ zigs c.tail) := rfl
  have hzl : ∀ j, (zigs (c.tail.take j)).length ≤ 70 := fun j => by
    have := zigs_len (l := c.tail.take j) fun n hn => ht n (List.mem_of_mem_take hn)
    have h2 : (c.tail.take j).length ≤ 7 := by rw [List.length_take]; simp [Cm.tail]; omega
    omega
  have hl1 := leb_len (n := c.k.toNat) (U64.small (by omega))
  have hl2 := leb_len (n := c.cl.toNat) (U64.small (by omega))
  have HTL : Hid (c.tail.length = 7) := rfl
  have HT := Lib.hid ht; clear ht
  have HV : Hid (c.tail.map (Value.int .i64) = [.int .i64 c.sq, .int .i64 c.tm, .int .i64 c.s, .int .i64 c.a, .int .i64 c.p, .int .i64 c.q, .int .i64 c.i]) := rfl
  clear E hm hI
  rw [Cm.val] at C ⊢
  have hX := Blk.new w 23 #[.int .i64 c.k, .int .i64 c.cl, .int .i64 c.sq, .int .i64 c.tm, .int .i64 c.s, .int .i64 c.a, .int .i64 c.p, .int .i64 c.q, .int .i64 c.i]
  have U0 := (Upd.refl [] w).alloc (.cells #[.int .i64 c.k, .int .i64 c.cl, .int .i64 c.sq, .int .i64 c.tm, .int .i64 c.s, .int .i64 c.a, .int .i64 c.p, .int .i64 c.q, .int .i64 c.i] 23)
  go_enter Tryd.func8, Tryd.ntmps8
  repeat' ((fail_if_success (with_reducible refine stop_append rfl ?_)); (fail_if_success (with_reducible refine stop_copy rfl ?_)); first | go_values | go_skip | go_guarded | go_step | go_upon | (simp only []; go_at_K))
  refine (C _).mono ?_
  rintro e w1 ⟨rfl, hu1⟩
  have hX1 := hX.upd hu1 (by simp)
  have U1 := U0.trans hu1
  clear C hX U0 hu1
  obtain ⟨⟨b0, b1, b2, b3, b4, b5, b6, b7, b8⟩, -⟩ := hX1.c9
  obtain ⟨K, hK⟩ : ∃ K : Nat, c.k = (K : Int) := Int.eq_ofNat_of_zero_le hk0
  obtain ⟨L, hL⟩ : ∃ L : Nat, c.cl = (L : Int) := Int.eq_ofNat_of_zero_le (by omega)
  rw [hK] at b0 hk1
  rw [hL] at b1 hc1
  have hK2 : K ≤ 11 := by omega
  have hL2 : L ≤ 64 := by omega
  have HK : Hid (c.k.toNat = K) := Lib.hid (by rw [hK]; rfl)
  have HL : Hid (c.cl.toNat = L) := Lib.hid (by rw [hL]; rfl)
  have HKL := Lib.hid (And.intro hK hL)
  rw [HK.out] at hl1
  rw [HL.out] at hl2
  clear hk0 hk1 hc0 hc1 hK hL
  repeat' ((fail_if_success (with_reducible refine stop_append rfl ?_)); (fail_if_success (with_reducible refine stop_copy rfl ?_)); first | go_values | go_skip | go_guarded | go_step | go_upon | (simp only []; go_at_K))
  ((with_reducible refine (refUint_any _ _ (by omega) (by unfold U64; omega)).mono ?_); rintro e w2 ⟨A2, k2, c2, rfl, ho2, hu2⟩)
  simp only [Int.toNat_natCast] at ho2
  have U2 := U1.trans hu2
  have hX2 := hX1.upd hu2 (by simp)
  clear hX1 U1 hu2 b0 b1 b2 b3 b4 b5 b6 b7 b8
  obtain ⟨⟨b0, b1, b2, b3, b4, b5, b6, b7, b8⟩, -⟩ := hX2.c9
  rw [HKL.out.2] at b1
  repeat' ((fail_if_success (with_reducible refine stop_append rfl ?_)); (fail_if_success (with_reducible refine stop_copy rfl ?_)); first | go_values | go_skip | go_guarded | go_step | go_upon | (simp only []; go_at_K))
  ((with_reducible refine (refUint_any _ _ (by omega) (by unfold U64; omega)).mono ?_); rintro e w3 ⟨A3, k3, c3, rfl, ho3, hu3⟩)
  simp only [Int.toNat_natCast] at ho3
  have ho2' := ho2.upd hu3 (by simp)
  have U3 : Upd [] (ablk A2) w w3 := U2.trans (hu3.up _)
  have hX3 := hX2.upd hu3 (by simp)
  clear hX2 U2 hu3 ho2 b0 b1 b2 b3 b4 b5 b6 b7 b8
  repeat' ((fail_if_success (with_reducible refine stop_append rfl ?_)); (fail_if_success (with_reducible refine stop_copy rfl ?_)); first | go_values | go_skip | go_guarded | go_step | go_upon | (simp only []; go_at_K))
  refine wpList_appB rfl _ _ 24 rfl 5 Tryd.underlying24 infoU8 ho2' rfl ho3.rd rfl (by omega) ?_
  intro A4 k4 c4 w4 ho4 hu4
  have hX4 := hX3.upd hu4 (ho2'.own.ne hX3 (by decide))
  have U4 := U3.trans hu4
  clear hX3 U3 hu4 ho2' ho3
  obtain ⟨⟨b0, b1, b2, b3, b4, b5, b6, b7, b8⟩, -⟩ := hX4.c9
  repeat' ((fail_if_success (with_reducible refine stop_append rfl ?_)); (fail_if_success (with_reducible refine stop_copy rfl ?_)); first | go_values | go_skip | go_guarded | go_step | go_upon | (simp only []; go_at_K))
  have hrd : Rd (w4.alloc (.cells #[.int .i64 c.sq, .int .i64 c.tm, .int .i64 c.s, .int .i64 c.a, .int .i64 c.p, .int .i64 c.q, .int .i64 c.i] 2)) 1 (some ⟨w4.heap.size, 0, none⟩) 7 (c.tail.map (Value.int .i64)) := by
    rw [HV.out]
    exact Rd.blk (cs := [.int .i64 c.sq, .int .i64 c.tm, .int .i64 c.s, .int .i64 c.a, .int .i64 c.p, .int .i64 c.q, .int .i64 c.i]) (Blk.new _ _ _) rfl
  have ho5 := ho4.alloc (.cells #[.int .i64 c.sq, .int .i64 c.tm, .int .i64 c.s, .int .i64 c.a, .int .i64 c.p, .int .i64 c.q, .int .i64 c.i] 2)
  have U5 := U4.alloc (.cells #[.int .i64 c.sq, .int .i64 c.tm, .int .i64 c.s, .int .i64 c.a, .int .i64 c.p, .int .i64 c.q, .int .i64 c.i] 2)
  have hG5 := Blk.new w4 2 #[.int .i64 c.sq, .int .i64 c.tm, .int .i64 c.s, .int .i64 c.a, .int .i64 c.p, .int .i64 c.q, .int .i64 c.i]
  generalize w4.alloc (.cells #[.int .i64 c.sq, .int .i64 c.tm, .int .i64 c.s, .int .i64 c.a, .int .i64 c.p, .int .i64 c.q, .int .i64 c.i] 2) = w5 at *
  generalize w4.heap.size = g5 at *
  obtain ⟨ad, hAD⟩ : ∃ ad : Addr, (⟨g5, 0, none⟩ : Addr) = ad := ⟨_, rfl⟩
  have hadb : ad.block = g5 := by rw [← hAD]
  rw [hAD] at hrd ⊢
  clear hAD
  clear b0 b1 b2 b3 b4 b5 b6 b7 b8 hX4 U4 ho4
  generalize c.tail = tl at *
  go_loopw [4, 6] (fun v4 v6 wr => ∃ (j : Nat) (A6 : Option Addr) (k6 c6 : Nat), j ≤ 7 ∧ v6 = .int .i64 (j : Int) ∧ v4 = .slice A6 k6 c6 ∧ OwnB 5 wr A6 k6 c6 (leb K ++ leb L ++ zigs (tl.take j)) ∧ Rd wr 1 (some ad) 7 (tl.map (Value.int .i64)) ∧ Blk wr g5 2 #[.int .i64 c.sq, .int .i64 c.tm, .int .i64 c.s, .int .i64 c.a, .int .i64 c.p, .int .i64 c.q, .int .i64 c.i] ∧ Upd [] (ablk A6) w wr)
    (fun _ v6 _ => 7 - (intOf v6).toNat)
  case atStart => exact ⟨0, A4, k4, c4, by omega, rfl, rfl, by simpa [zigs] using ho5, hrd, hG5, U5⟩
  case round =>
    clear ho5 hrd U5 hG5
    obtain ⟨j, A6, k6, c6, hj, rfl, rfl, ho, hr, hG, U⟩ := hrel
    have hz := hzl j
    by_cases hlt : j < 7
    · have hjt : j < tl.length := by rw [HTL.out]; exact hlt
      obtain ⟨ad', u, hA, hg, hc⟩ := hr.at_ (k := j) (by omega)
      obtain rfl := Option.some.inj hA
      rw [List.getElem?_map, List.getElem?_eq_getElem hjt] at hg
      obtain rfl := Option.some.inj hg
      have hIx := HT.out tl[j] (List.getElem_mem hjt)
      have HS := Lib.hid (zigs_take hjt)
      have hz1 := hzl (j + 1)
      rw [HS.out, List.length_append] at hz1
      generalize tl[j] = x at *
      have hgA : g5 ∉ ablk A6 := ho.own.ne hG (by decide)
      clear hg hA
      have HI := Lib.hid hIx
      clear hIx
      repeat' ((fail_if_success (with_reducible refine stop_append rfl ?_)); (fail_if_success (with_reducible refine stop_copy rfl ?_)); first | go_values | go_skip | go_guarded | go_step | go_upon | (simp only []; go_at_K))
      ((with_reducible refine (refZig x wr HI.out).mono ?_); rintro e w6 ⟨rfl, rfl⟩)
      repeat' ((fail_if_success (with_reducible refine stop_append rfl ?_)); (fail_if_success (with_reducible refine stop_copy rfl ?_)); first | go_values | go_skip | go_guarded | go_step | go_upon | (simp only []; go_at_K))
      ((with_reducible refine (refUint_any _ _ (by omega) (by simpa using zig_U64 HI.out)).mono ?_); rintro e w7 ⟨A7, k7, c7, rfl, ho7, hu7⟩)
      simp only [Int.toNat_natCast] at ho7
      have ho' := ho.upd hu7 (by simp)
      have V : Upd [] (ablk A6) w w7 := U.trans (hu7.up _)
      have hG7 := hG.upd hu7 (by simp)
      have hr7 := hr.upd hu7 (by simp)
      clear ho U hu7 hc hG hr
      repeat' ((fail_if_success (with_reducible refine stop_append rfl ?_)); (fail_if_success (with_reducible refine stop_copy rfl ?_)); first | go_values | go_skip | go_guarded | go_step | go_upon | (simp only []; go_at_K))
      refine wpList_appB rfl _ _ 24 rfl 5 Tryd.underlying24 infoU8 ho' rfl ho7.rd rfl (by simp only [List.length_append]; omega) ?_
      intro A8 k8 c8 w8 ho8 hu8
      rw [List.append_assoc, ← HS.out] at ho8
      have V8 := V.trans hu8
      have hG8 := hG7.upd hu8 hgA
      have hr8 := hr7.upd hu8 (by intro j hj; simp [ablk] at hj; subst hj; rw [hadb]; exact hgA)
      clear ho' V hu8 ho7 hG7 hr7
      repeat' ((fail_if_success (with_reducible refine stop_append rfl ?_)); (fail_if_success (with_reducible refine stop_copy rfl ?_)); first | go_values | go_skip | go_guarded | go_step | go_upon | (simp only []; go_at_K))
      exact ⟨⟨j + 1, A8, k8, c8, by omega, by simp, rfl, ho8, hr8, hG8, V8⟩, by simp [intOf]; omega⟩
    · obtain rfl : j = 7 := by omega
      have ht7 : tl.take 7 = tl := List.take_of_length_le (by rw [HTL.out]; omega)
      rw [ht7] at ho
      have hHB : Cm.bytes c = leb K ++ leb L ++ zigs tl := by rw [HB.out, HK.out, HL.out]
      rw [← hHB] at ho
      clear hHB ht7
      repeat' ((fail_if_success (with_reducible refine stop_append rfl ?_)); (fail_if_success (with_reducible refine stop_copy rfl ?_)); first | go_values | go_skip | go_guarded | go_step | go_upon | (simp only []; go_at_K))
      go_ret2
      exact ⟨A6, k6, c6, rfl, ho, U⟩
end Go.Proofs.YtmnoahglajilhaaDoor
