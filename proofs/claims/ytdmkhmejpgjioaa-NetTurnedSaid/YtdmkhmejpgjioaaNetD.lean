/- agiolaw13.NetTurned. -/
import Derived.Test.YtdmkhmejpgjioaaNetP
namespace Go.Proofs.Ytdmkhmejpgjioaa
open Go.RowKit Agio

theorem xor_ne {a v : UInt8} (hv : v ≠ 0) : a ^^^ v ≠ a := by
  intro h
  apply hv
  have : a ^^^ (a ^^^ v) = a ^^^ a := by rw [h]
  simpa [← UInt8.xor_assoc] using this
theorem set_ne {l : List UInt8} {k : Nat} (hk : k < l.length) {c : UInt8} (hc : c ≠ l[k]) : l.set k c ≠ l := by
  intro h
  have := congrArg (fun z => z[k]?) h
  simp only [List.getElem?_set, if_true, hk, List.getElem?_eq_getElem hk] at this
  exact hc (by simpa using this)

set_option maxRecDepth 100000 in
set_option maxHeartbeats 8000000 in
theorem netTurned_any (w : World) (x : Mv) (hr : RdB w x.A x.n x.b) (p : Nat) (hp : p < 65536) (v : UInt8) :
    Calls Try.prog 7 #[x.val, .int .u16 (p : Int), .int .u8 (v.toNat : Int)] w fun e w' => e = .returned (.bool true) ∧ Upd [] [] w w' := by
  have hX := Blk.new w 49 #[.int .i64 x.k, .int .i64 x.f, .int .i64 x.t, .int .i64 x.s, .int .i64 x.br, .int .i64 x.bs, .int .i64 x.hr, .int .i64 x.hs, .bool x.so, .slice x.A x.n x.c]
  have hr0 := hr.alloc (.cells #[.int .i64 x.k, .int .i64 x.f, .int .i64 x.t, .int .i64 x.s, .int .i64 x.br, .int .i64 x.bs, .int .i64 x.hr, .int .i64 x.hs, .bool x.so, .slice x.A x.n x.c] 49)
  have U0 := (Upd.refl [] w).alloc (.cells #[.int .i64 x.k, .int .i64 x.f, .int .i64 x.t, .int .i64 x.s, .int .i64 x.br, .int .i64 x.bs, .int .i64 x.hr, .int .i64 x.hs, .bool x.so, .slice x.A x.n x.c] 49)
  clear hr
  rw [Mv.val_eq]
  by_cases hm : x.ms.May
  · by_cases hv : v = 0
    · subst hv
      go_enter Try.func7, Try.ntmps7
      repeat' ((fail_if_success (with_reducible refine stop_append rfl ?_)); (fail_if_success (with_reducible refine stop_copy rfl ?_)); first | go_values | go_skip | go_guarded | go_step | go_upon | (simp only []; go_at_K))
      ((with_reducible refine (awake13 _).mono ?_); rintro e w1 ⟨rfl, hu1⟩)
      have hX1 := hX.upd hu1 (by simp)
      have C := netEncode x w1 (hr0.upd hu1 (by simp)) hm
      rw [Mv.val_eq] at C
      obtain ⟨⟨b0, b1, b2, b3, b4, b5, b6, b7, b8, b9⟩, -⟩ := hX1.c10
      have U1 := U0.trans hu1
      clear hX hX1 hr0 hu1 U0 hm
      repeat' ((fail_if_success (with_reducible refine stop_append rfl ?_)); (fail_if_success (with_reducible refine stop_copy rfl ?_)); first | go_values | go_skip | go_guarded | go_step | go_upon | (simp only []; go_at_K))
      ((with_reducible refine C.mono ?_); rintro e w2 ⟨A2, n2, c2, rfl, ho2, hu2⟩)
      clear b0 b1 b2 b3 b4 b5 b6 b7 b8 b9 C
      repeat' ((fail_if_success (with_reducible refine stop_append rfl ?_)); (fail_if_success (with_reducible refine stop_copy rfl ?_)); first | go_values | go_skip | go_guarded | go_step | go_upon | (simp only []; go_at_K))
      go_ret
      exact ⟨rfl, U1.trans (hu2.gives (b' := []) (by simp))⟩
    · obtain ⟨bb, hbb, hlen, hb8, F⟩ : ∃ bb, x.ms.bytes = bb ∧ bb.length ≤ 2208 ∧ 8 ≤ bb.length ∧ ∀ k (hk : k < bb.length), ¬ Whole (bb.set k (bb[k] ^^^ v)) ∧ bb.set k (bb[k] ^^^ v) ≠ bb :=
        ⟨x.ms.bytes, rfl, hm.len, by rw [show x.ms.bytes = put x.ms.inside from rfl, put_len]; omega, fun k hk => ⟨turned (b := x.ms.inside) (by have := hm.ilen; omega) hk (xor_ne hv), set_ne hk (xor_ne hv)⟩⟩
      have hsite : siteB x.t = true := siteB_yes hm.to
      have hv0 : ((v.toNat : Int) == 0) = false := by
        simp only [beq_eq_false_iff_ne, ne_eq]
        intro h0
        exact hv (UInt8.toNat_inj.1 (by simpa using h0))
      have hk : p % bb.length < bb.length := Nat.mod_lt _ (by omega)
      obtain ⟨hW, hne⟩ := F _ hk
      clear F
      go_enter Try.func7, Try.ntmps7
      repeat' ((fail_if_success (with_reducible refine stop_append rfl ?_)); (fail_if_success (with_reducible refine stop_copy rfl ?_)); first | go_values | go_skip | go_guarded | go_step | go_upon | (simp only []; go_at_K))
      ((with_reducible refine (awake13 _).mono ?_); rintro e w1 ⟨rfl, hu1⟩)
      have hX1 := hX.upd hu1 (by simp)
      have C := netEncode x w1 (hr0.upd hu1 (by simp)) hm
      rw [Mv.val_eq] at C
      obtain ⟨⟨b0, b1, b2, b3, b4, b5, b6, b7, b8, b9⟩, -⟩ := hX1.c10
      have U1 := U0.trans hu1
      rw [hbb] at C
      clear hX hr0 hu1 U0 hm hbb
      repeat' ((fail_if_success (with_reducible refine stop_append rfl ?_)); (fail_if_success (with_reducible refine stop_copy rfl ?_)); first | go_values | go_skip | go_guarded | go_step | go_upon | (simp only []; go_at_K))
      ((with_reducible refine C.mono ?_); rintro e w2 ⟨A2, n2, c2, rfl, ho2, hu2⟩)
      have hX2 := hX1.upd hu2 (by simp)
      clear b0 b1 b2 b3 b4 b5 b6 b7 b8 b9 C hX1
      have U2 := U1.trans (hu2.gives (b' := []) (by simp))
      clear U1 hu2
      obtain rfl := ho2.len
      repeat' ((fail_if_success (with_reducible refine stop_append rfl ?_)); (fail_if_success (with_reducible refine stop_copy rfl ?_)); first | go_values | go_skip | go_guarded | go_step | go_upon | (simp only []; go_at_K))
      ((with_reducible refine (netNew _).mono ?_); rintro e w3 ⟨g, rfl, h3, hu3⟩)
      have hX3 := hX2.upd hu3 (by simp)
      have ho3 := ho2.upd hu3 (by simp)
      obtain ⟨⟨b0, b1, b2, b3, b4, b5, b6, b7, b8, b9⟩, -⟩ := hX3.c10
      have C := netSend w3 g none 0 0 [] h3 x.t A2 bb.length c2 bb ho3.rd (by omega) hsite (by decide)
      clear hX2 hX3
      repeat' ((fail_if_success (with_reducible refine stop_append rfl ?_)); (fail_if_success (with_reducible refine stop_copy rfl ?_)); first | go_values | go_skip | go_guarded | go_step | go_upon | (simp only []; go_at_K))
      ((with_reducible refine C.mono ?_); rintro e w4 ⟨A4, n4, c4, y, rfl, -, hy2, h4, hu4⟩)
      simp only [List.nil_append] at h4 hu4
      clear b0 b1 b2 b3 b4 b5 b6 b7 b8 b9 C ho3
      have U4 := hu3.trans hu4
      obtain ⟨yt, yA, yn, yc, yb⟩ := y
      simp only at hy2
      subst hy2
      have C := netSpoil w4 g A4 n4 c4 [⟨yt, yA, yn, yc, yb⟩] h4 0 (by simp) (p % yb.length) hk v hv
      simp only [List.getElem_cons_zero, List.set_cons_zero, Pk.turn] at C
      rw [show ((0 : Nat) : Int) = 0 from rfl] at C
      rw [show ((p % yb.length : Nat) : Int) = (p : Int) % (yb.length : Int) from rfl] at C
      have hsl : (yb.set (p % yb.length) (yb[p % yb.length] ^^^ v)).length = yb.length := List.length_set
      generalize yb.set (p % yb.length) (yb[p % yb.length] ^^^ v) = ys at *
      clear hk hv hsite
      repeat' ((fail_if_success (with_reducible refine stop_append rfl ?_)); (fail_if_success (with_reducible refine stop_copy rfl ?_)); first | go_values | go_skip | go_guarded | go_step | go_upon | (simp only []; go_at_K))
      ((with_reducible refine C.mono ?_); rintro e w5 ⟨rfl, h5, hu5⟩)
      have U5 := U4.trans hu5
      clear C h4 hu4 hu5 U4 h3 hu3
      have C := netTake w5 g A4 n4 c4 [⟨yt, yA, yn, yc, ys⟩] h5 0 (by simp) ⟨yt, yA, yn, yc, ys⟩ rfl
      rw [show ((0 : Nat) : Int) = 0 from rfl] at C
      repeat' ((fail_if_success (with_reducible refine stop_append rfl ?_)); (fail_if_success (with_reducible refine stop_copy rfl ?_)); first | go_values | go_skip | go_guarded | go_step | go_upon | (simp only []; go_at_K))
      ((with_reducible refine C.mono ?_); rintro e w6 ⟨A6, n6, c6, rfl, -, hy6, -, hu6⟩)
      have U6 := U5.trans hu6
      clear C U5 hu6 h5
      simp only at hy6
      obtain rfl := hy6.len.trans hsl
      have C := netDecode w6 yA yb.length yc ys hy6.rd hy6.own.cap.1 hy6.own.cap.2 (by omega)
      clear hsl
      repeat' ((fail_if_success (with_reducible refine stop_append rfl ?_)); (fail_if_success (with_reducible refine stop_copy rfl ?_)); first | go_values | go_skip | go_guarded | go_step | go_upon | (simp only []; go_at_K))
      ((with_reducible refine C.mono ?_); rintro e w7 ⟨hN, hu7⟩)
      have U7 := (U6.trans (hu7.up _)).gives (b' := []) (by simp)
      clear C
      rcases hN with ⟨-, rfl⟩ | ⟨hW', -, rfl⟩ | ⟨y, hW', -, -, rfl⟩
      · have s1 := fun o => strOf ((hy6.rd.upd hu7 (by simp)).alloc o) yc
        have s2 := fun o => strOf ((ho2.rd.upd U7 (by simp)).alloc o) c2
        have UU := U2.trans U7
        clear hy6 ho2 U6 U7 U2 hu7 hlen hb8 hp
        repeat' ((fail_if_success (with_reducible refine stop_append rfl ?_)); (fail_if_success (with_reducible refine stop_copy rfl ?_)); first | go_values | go_skip | go_guarded | go_step | go_upon | (simp only []; go_at_K))
        go_ret
        refine ⟨?_, UU.alloc _⟩
        simp [hne]
      · exact absurd hW' hW
      · exact absurd hW' hW
  · go_enter Try.func7, Try.ntmps7
    repeat' ((fail_if_success (with_reducible refine stop_append rfl ?_)); (fail_if_success (with_reducible refine stop_copy rfl ?_)); first | go_values | go_skip | go_guarded | go_step | go_upon | (simp only []; go_at_K))
    ((with_reducible refine (awake13 _).mono ?_); rintro e w1 ⟨rfl, hu1⟩)
    have hX1 := hX.upd hu1 (by simp)
    have C := netEncode_no x w1 (hr0.upd hu1 (by simp)) hm
    rw [Mv.val_eq] at C
    obtain ⟨⟨b0, b1, b2, b3, b4, b5, b6, b7, b8, b9⟩, -⟩ := hX1.c10
    have U1 := U0.trans hu1
    clear hX hX1 hr0 hu1 U0 hm
    repeat' ((fail_if_success (with_reducible refine stop_append rfl ?_)); (fail_if_success (with_reducible refine stop_copy rfl ?_)); first | go_values | go_skip | go_guarded | go_step | go_upon | (simp only []; go_at_K))
    ((with_reducible refine C.mono ?_); rintro e w2 ⟨rfl, hu2⟩)
    clear b0 b1 b2 b3 b4 b5 b6 b7 b8 b9 C
    repeat' ((fail_if_success (with_reducible refine stop_append rfl ?_)); (fail_if_success (with_reducible refine stop_copy rfl ?_)); first | go_values | go_skip | go_guarded | go_step | go_upon | (simp only []; go_at_K))
    go_ret
    exact ⟨rfl, U1.trans hu2⟩
end Go.Proofs.Ytdmkhmejpgjioaa
