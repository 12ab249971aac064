/- agiolaw13.NetBack. -/
import Derived.Test.YtdmkhmejpgjioaaNetA
namespace Go.Proofs.Ytdmkhmejpgjioaa
open Go.RowKit Agio

theorem decI_inside {b : List UInt8} {m : Ms} (hW : Whole b) (h : decI (b.drop 8) = some m) : m.May ∧ m.bytes = b := by
  have hD := decI_ok h
  refine ⟨hD.1, ?_⟩
  have := hW.put
  rw [← hD.2] at this
  exact this.symm

set_option maxRecDepth 100000 in
set_option maxHeartbeats 8000000 in
theorem netBack_any (w : World) (x : Mv) (hr : RdB w x.A x.n x.b) (B : Option Addr) (m d : Nat) (b : List UInt8) (hB : RdB w B m b) (hmd : m ≤ d) (hd : d ≤ maxLen) (hb : b.length ≤ 140737488355328) :
    Calls Try.prog 6 #[x.val, .slice B m d] w fun e w' => e = .returned (.bool true) ∧ Upd [] [] w w' := by
  have HD : Hid (∀ w0, RdB w0 B m b → Calls Try.prog 30 #[.slice B m d] w0 fun e w' => NDec b w' e ∧ Upd [] [] w0 w') := fun w0 h => netDecode w0 B m d b h hmd hd hb
  clear hmd hd hb
  rw [Mv.val_eq]
  go_enter Try.func6, Try.ntmps6
  repeat' ((fail_if_success (with_reducible refine stop_append rfl ?_)); (fail_if_success (with_reducible refine stop_copy rfl ?_)); first | go_values | go_skip | go_guarded | go_step | go_upon | (simp only []; go_at_K))
  ((with_reducible refine (awake13 _).mono ?_); rintro e w1 ⟨rfl, hu1⟩)
  have hX := (Blk.new w 49 #[.int .i64 x.k, .int .i64 x.f, .int .i64 x.t, .int .i64 x.s, .int .i64 x.br, .int .i64 x.bs, .int .i64 x.hr, .int .i64 x.hs, .bool x.so, .slice x.A x.n x.c]).upd hu1 (by simp)
  have hr1 : RdB w1 x.A x.n x.b := (hr.alloc (.cells #[.int .i64 x.k, .int .i64 x.f, .int .i64 x.t, .int .i64 x.s, .int .i64 x.br, .int .i64 x.bs, .int .i64 x.hr, .int .i64 x.hs, .bool x.so, .slice x.A x.n x.c] 49)).upd hu1 (by simp)
  have hB1 : RdB w1 B m b := (hB.alloc (.cells #[.int .i64 x.k, .int .i64 x.f, .int .i64 x.t, .int .i64 x.s, .int .i64 x.br, .int .i64 x.bs, .int .i64 x.hr, .int .i64 x.hs, .bool x.so, .slice x.A x.n x.c] 49)).upd hu1 (by simp)
  have U1 := ((Upd.refl [] w).alloc (.cells #[.int .i64 x.k, .int .i64 x.f, .int .i64 x.t, .int .i64 x.s, .int .i64 x.br, .int .i64 x.bs, .int .i64 x.hr, .int .i64 x.hs, .bool x.so, .slice x.A x.n x.c] 49)).trans hu1
  clear hu1 hr hB
  obtain ⟨⟨b0, b1, b2, b3, b4, b5, b6, b7, b8, b9⟩, -⟩ := hX.c10
  by_cases hm : x.ms.May
  · have C := netEncode x w1 hr1 hm
    rw [Mv.val_eq] at C
    repeat' ((fail_if_success (with_reducible refine stop_append rfl ?_)); (fail_if_success (with_reducible refine stop_copy rfl ?_)); first | go_values | go_skip | go_guarded | go_step | go_upon | (simp only []; go_at_K))
    ((with_reducible refine C.mono ?_); rintro e w2 ⟨A2, n2, c2, rfl, ho2, hu2⟩)
    have hX2 := hX.upd hu2 (by simp)
    have hr2 := hr1.upd hu2 (by simp)
    have hB2 := hB1.upd hu2 (by simp)
    have U2 := U1.trans (hu2.gives (b' := []) (by simp))
    have hbl : x.ms.bytes.length ≤ 140737488355328 := Nat.le_trans hm.len (by decide)
    clear C hX hr1 hB1 U1 b0 b1 b2 b3 b4 b5 b6 b7 b8 b9 hu2
    repeat' ((fail_if_success (with_reducible refine stop_append rfl ?_)); (fail_if_success (with_reducible refine stop_copy rfl ?_)); first | go_values | go_skip | go_guarded | go_step | go_upon | (simp only []; go_at_K))
    ((with_reducible refine (netDecode w2 A2 n2 c2 x.ms.bytes ho2.rd ho2.own.cap.1 ho2.own.cap.2 hbl).mono ?_); rintro e w3 ⟨hN, hu3⟩)
    obtain ⟨A3, n3, c3, ho3, rfl⟩ := nDec_same hm hN
    have hX3 := (hX2.upd hu3 (by simp)).alloc (.cells #[.int .i64 x.k, .int .i64 x.f, .int .i64 x.t, .int .i64 x.s, .int .i64 x.br, .int .i64 x.bs, .int .i64 x.hr, .int .i64 x.hs, .bool x.so, .slice A3 n3 c3] 49)
    have hr3 := (hr2.upd hu3 (by simp)).alloc (.cells #[.int .i64 x.k, .int .i64 x.f, .int .i64 x.t, .int .i64 x.s, .int .i64 x.br, .int .i64 x.bs, .int .i64 x.hr, .int .i64 x.hs, .bool x.so, .slice A3 n3 c3] 49)
    have hB3 := (hB2.upd hu3 (by simp)).alloc (.cells #[.int .i64 x.k, .int .i64 x.f, .int .i64 x.t, .int .i64 x.s, .int .i64 x.br, .int .i64 x.bs, .int .i64 x.hr, .int .i64 x.hs, .bool x.so, .slice A3 n3 c3] 49)
    have ho3' := ho3.rd.alloc (.cells #[.int .i64 x.k, .int .i64 x.f, .int .i64 x.t, .int .i64 x.s, .int .i64 x.br, .int .i64 x.bs, .int .i64 x.hr, .int .i64 x.hs, .bool x.so, .slice A3 n3 c3] 49)
    have U3 := (U2.trans hu3).alloc (.cells #[.int .i64 x.k, .int .i64 x.f, .int .i64 x.t, .int .i64 x.s, .int .i64 x.br, .int .i64 x.bs, .int .i64 x.hr, .int .i64 x.hs, .bool x.so, .slice A3 n3 c3] 49)
    obtain ⟨⟨b0, b1, b2, b3, b4, b5, b6, b7, b8, b9⟩, -⟩ := hX3.c10
    clear hN hX2 hr2 hB2 U2 hu3 ho2 ho3
    repeat' ((fail_if_success (with_reducible refine stop_append rfl ?_)); (fail_if_success (with_reducible refine stop_copy rfl ?_)); first | go_values | go_skip | go_guarded | go_step | go_upon | (simp only []; go_at_K))
    ((with_reducible refine (netOne x.k x.f x.t x.s x.br x.bs x.hr x.hs x.so A3 n3 c3 x.A x.n x.c x.b _ ho3' hr3).mono ?_); rintro e w4 ⟨rfl, hu4⟩)
    have hBz := hB3.upd hu4 (by simp)
    have Uz := U3.trans hu4
    clear hX3 hr3 hB3 ho3' U3 hu4 b0 b1 b2 b3 b4 b5 b6 b7 b8 b9 hbl hm
    repeat' ((fail_if_success (with_reducible refine stop_append rfl ?_)); (fail_if_success (with_reducible refine stop_copy rfl ?_)); first | go_values | go_skip | go_guarded | go_step | go_upon | (simp only []; go_at_K))
    all_goals
      ((with_reducible refine (HD.out _ hBz).mono ?_); rintro e w5 ⟨hN, hu5⟩)
      have hB5 := hBz.upd hu5 (by simp)
      have U5 := Uz.trans hu5
      clear hBz Uz hu5 HD
      rcases hN with ⟨-, rfl⟩ | ⟨-, -, rfl⟩ | ⟨y, hW, hd, hoy, rfl⟩
      any_goals
        try
          have hZ := Blk.new w5 49 #[.int .i64 0, .int .i64 0, .int .i64 0, .int .i64 0, .int .i64 0, .int .i64 0, .int .i64 0, .int .i64 0, .bool false, .slice none 0 0]
          have hUz := U5.alloc (.cells #[.int .i64 0, .int .i64 0, .int .i64 0, .int .i64 0, .int .i64 0, .int .i64 0, .int .i64 0, .int .i64 0, .bool false, .slice none 0 0] 49)
          obtain ⟨⟨b0, b1, b2, b3, b4, b5, b6, b7, b8, b9⟩, -⟩ := hZ.c10
          clear hZ U5 hB5
          repeat' ((fail_if_success (with_reducible refine stop_append rfl ?_)); (fail_if_success (with_reducible refine stop_copy rfl ?_)); first | go_values | go_skip | go_guarded | go_step | go_upon | (simp only []; go_at_K))
          ((with_reducible refine (netOne 0 0 0 0 0 0 0 0 false none 0 0 none 0 0 [] _ (RdB.nil _ _) (RdB.nil _ _)).mono ?_); rintro e w6 ⟨rfl, hu6⟩)
          repeat' ((fail_if_success (with_reducible refine stop_append rfl ?_)); (fail_if_success (with_reducible refine stop_copy rfl ?_)); first | go_values | go_skip | go_guarded | go_step | go_upon | (simp only []; go_at_K))
          go_ret
          exact ⟨rfl, hUz.trans hu6⟩
    all_goals
      obtain ⟨hym, hyb⟩ := decI_inside hW hd
      have hoy' := hoy.rd.alloc (.cells #[.int .i64 y.k, .int .i64 y.f, .int .i64 y.t, .int .i64 y.s, .int .i64 y.br, .int .i64 y.bs, .int .i64 y.hr, .int .i64 y.hs, .bool y.so, .slice y.A y.n y.c] 49)
      have C := netEncode y _ hoy' hym
      rw [Mv.val_eq, hyb] at C
      have hY := Blk.new w5 49 #[.int .i64 y.k, .int .i64 y.f, .int .i64 y.t, .int .i64 y.s, .int .i64 y.br, .int .i64 y.bs, .int .i64 y.hr, .int .i64 y.hs, .bool y.so, .slice y.A y.n y.c]
      have hB6 := hB5.alloc (.cells #[.int .i64 y.k, .int .i64 y.f, .int .i64 y.t, .int .i64 y.s, .int .i64 y.br, .int .i64 y.bs, .int .i64 y.hr, .int .i64 y.hs, .bool y.so, .slice y.A y.n y.c] 49)
      have U6 := U5.alloc (.cells #[.int .i64 y.k, .int .i64 y.f, .int .i64 y.t, .int .i64 y.s, .int .i64 y.br, .int .i64 y.bs, .int .i64 y.hr, .int .i64 y.hs, .bool y.so, .slice y.A y.n y.c] 49)
      obtain ⟨⟨b0, b1, b2, b3, b4, b5, b6, b7, b8, b9⟩, -⟩ := hY.c10
      clear hW hd hoy hoy' hym hyb U5 hB5
      repeat' ((fail_if_success (with_reducible refine stop_append rfl ?_)); (fail_if_success (with_reducible refine stop_copy rfl ?_)); first | go_values | go_skip | go_guarded | go_step | go_upon | (simp only []; go_at_K))
      ((with_reducible refine C.mono ?_); rintro e w7 ⟨A7, n7, c7, rfl, ho7, hu7⟩)
      have s1 := strOf ho7.rd c7
      have s2 := strOf (hB6.upd hu7 (by simp)) d
      have U7 := U6.trans (hu7.gives (b' := []) (by simp))
      clear C hY hB6 U6 ho7 hu7 b0 b1 b2 b3 b4 b5 b6 b7 b8 b9
      repeat' ((fail_if_success (with_reducible refine stop_append rfl ?_)); (fail_if_success (with_reducible refine stop_copy rfl ?_)); first | go_values | go_skip | go_guarded | go_step | go_upon | (simp only []; go_at_K))
      go_ret
      exact ⟨rfl, U7⟩
  · have C := netEncode_no x w1 hr1 hm
    rw [Mv.val_eq] at C
    repeat' ((fail_if_success (with_reducible refine stop_append rfl ?_)); (fail_if_success (with_reducible refine stop_copy rfl ?_)); first | go_values | go_skip | go_guarded | go_step | go_upon | (simp only []; go_at_K))
    ((with_reducible refine C.mono ?_); rintro e w2 ⟨rfl, hu2⟩)
    have hBz := hB1.upd hu2 (by simp)
    have Uz := U1.trans hu2
    clear C hX hr1 hB1 U1 b0 b1 b2 b3 b4 b5 b6 b7 b8 b9 hu2 hm
    repeat' ((fail_if_success (with_reducible refine stop_append rfl ?_)); (fail_if_success (with_reducible refine stop_copy rfl ?_)); first | go_values | go_skip | go_guarded | go_step | go_upon | (simp only []; go_at_K))
    all_goals
      ((with_reducible refine (HD.out _ hBz).mono ?_); rintro e w5 ⟨hN, hu5⟩)
      have hB5 := hBz.upd hu5 (by simp)
      have U5 := Uz.trans hu5
      clear hBz Uz hu5 HD
      rcases hN with ⟨-, rfl⟩ | ⟨-, -, rfl⟩ | ⟨y, hW, hd, hoy, rfl⟩
      any_goals
        try
          have hZ := Blk.new w5 49 #[.int .i64 0, .int .i64 0, .int .i64 0, .int .i64 0, .int .i64 0, .int .i64 0, .int .i64 0, .int .i64 0, .bool false, .slice none 0 0]
          have hUz := U5.alloc (.cells #[.int .i64 0, .int .i64 0, .int .i64 0, .int .i64 0, .int .i64 0, .int .i64 0, .int .i64 0, .int .i64 0, .bool false, .slice none 0 0] 49)
          obtain ⟨⟨b0, b1, b2, b3, b4, b5, b6, b7, b8, b9⟩, -⟩ := hZ.c10
          clear hZ U5 hB5
          repeat' ((fail_if_success (with_reducible refine stop_append rfl ?_)); (fail_if_success (with_reducible refine stop_copy rfl ?_)); first | go_values | go_skip | go_guarded | go_step | go_upon | (simp only []; go_at_K))
          ((with_reducible refine (netOne 0 0 0 0 0 0 0 0 false none 0 0 none 0 0 [] _ (RdB.nil _ _) (RdB.nil _ _)).mono ?_); rintro e w6 ⟨rfl, hu6⟩)
          repeat' ((fail_if_success (with_reducible refine stop_append rfl ?_)); (fail_if_success (with_reducible refine stop_copy rfl ?_)); first | go_values | go_skip | go_guarded | go_step | go_upon | (simp only []; go_at_K))
          go_ret
          exact ⟨rfl, hUz.trans hu6⟩
    all_goals
      obtain ⟨hym, hyb⟩ := decI_inside hW hd
      have hoy' := hoy.rd.alloc (.cells #[.int .i64 y.k, .int .i64 y.f, .int .i64 y.t, .int .i64 y.s, .int .i64 y.br, .int .i64 y.bs, .int .i64 y.hr, .int .i64 y.hs, .bool y.so, .slice y.A y.n y.c] 49)
      have C := netEncode y _ hoy' hym
      rw [Mv.val_eq, hyb] at C
      have hY := Blk.new w5 49 #[.int .i64 y.k, .int .i64 y.f, .int .i64 y.t, .int .i64 y.s, .int .i64 y.br, .int .i64 y.bs, .int .i64 y.hr, .int .i64 y.hs, .bool y.so, .slice y.A y.n y.c]
      have hB6 := hB5.alloc (.cells #[.int .i64 y.k, .int .i64 y.f, .int .i64 y.t, .int .i64 y.s, .int .i64 y.br, .int .i64 y.bs, .int .i64 y.hr, .int .i64 y.hs, .bool y.so, .slice y.A y.n y.c] 49)
      have U6 := U5.alloc (.cells #[.int .i64 y.k, .int .i64 y.f, .int .i64 y.t, .int .i64 y.s, .int .i64 y.br, .int .i64 y.bs, .int .i64 y.hr, .int .i64 y.hs, .bool y.so, .slice y.A y.n y.c] 49)
      obtain ⟨⟨b0, b1, b2, b3, b4, b5, b6, b7, b8, b9⟩, -⟩ := hY.c10
      clear hW hd hoy hoy' hym hyb U5 hB5
      repeat' ((fail_if_success (with_reducible refine stop_append rfl ?_)); (fail_if_success (with_reducible refine stop_copy rfl ?_)); first | go_values | go_skip | go_guarded | go_step | go_upon | (simp only []; go_at_K))
      ((with_reducible refine C.mono ?_); rintro e w7 ⟨A7, n7, c7, rfl, ho7, hu7⟩)
      have s1 := strOf ho7.rd c7
      have s2 := strOf (hB6.upd hu7 (by simp)) d
      have U7 := U6.trans (hu7.gives (b' := []) (by simp))
      clear C hY hB6 U6 ho7 hu7 b0 b1 b2 b3 b4 b5 b6 b7 b8 b9
      repeat' ((fail_if_success (with_reducible refine stop_append rfl ?_)); (fail_if_success (with_reducible refine stop_copy rfl ?_)); first | go_values | go_skip | go_guarded | go_step | go_upon | (simp only []; go_at_K))
      go_ret
      exact ⟨rfl, U7⟩
end Go.Proofs.Ytdmkhmejpgjioaa
