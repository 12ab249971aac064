/- Records: agiolaw07.AlogBack. -/
import Derived.Test.YtdmkhmejpgjioaaAlogA
import Derived.Test.YtdmkhmejpgjioaaAlog9
namespace Go.Proofs.Ytdmkhmejpgjioaa
open Go.RowKit Agio

theorem rcs_may {m : List Rv} (h : ∀ x ∈ m, x.rc.May) : ∀ r ∈ rcs m, r.May := by
  intro r hr
  obtain ⟨x, hx, rfl⟩ := List.mem_map.1 hr
  exact h x hx
theorem lay_small {m : List Rv} (h : ∀ x ∈ m, x.rc.May) (hl : m.length ≤ 40) : (layB (rcs m)).length ≤ 84320 := by
  have := layB_len (rcs_may h)
  simp only [rcs, List.length_map] at this ⊢
  omega

set_option maxRecDepth 100000 in
set_option maxHeartbeats 4000000 in
theorem alogBack_any (w : World) (A : Option Addr) (n c : Nat) (l : List Rv) (hr : Rvs w A n l) (hlm : l.length ≤ 140737488355328) :
    Calls Try.prog 3 #[.slice A n c] w fun e w' => e = .returned (.bool true) ∧ Upd [] [] w w' := by
  go_enter Try.func3, Try.ntmps3
  repeat' ((fail_if_success (with_reducible refine stop_append rfl ?_)); (fail_if_success (with_reducible refine stop_copy rfl ?_)); first | go_values | go_skip | go_guarded | go_step | go_upon | (simp only []; go_at_K))
  ((with_reducible refine (awake07 _).mono ?_); rintro e w1 ⟨rfl, hu1⟩)
  have hr1 := hr.upd hu1
  repeat' ((fail_if_success (with_reducible refine stop_append rfl ?_)); (fail_if_success (with_reducible refine stop_copy rfl ?_)); first | go_values | go_skip | go_guarded | go_step | go_upon | (simp only []; go_at_K))
  ((with_reducible refine (law07May _ A n c l hr1 hlm).mono ?_); rintro e w2 ⟨A1, c1, m, rfl, ho1, hm, hm40, hu2⟩)
  have hM : Rvs w2 A1 m.length m := ⟨⟨rfl, ho1.rd⟩, fun x hx => (hr1.each x (hm x hx).1).upd hu2 (by simp)⟩
  have hmm : ∀ x ∈ m, x.rc.May := fun x hx => (hm x hx).2
  have hsm := lay_small hmm hm40
  have U2 := (hu1.trans hu2).gives (b' := []) (by simp)
  clear hr hr1 hu1 hu2 ho1 hm
  repeat' ((fail_if_success (with_reducible refine stop_append rfl ?_)); (fail_if_success (with_reducible refine stop_copy rfl ?_)); first | go_values | go_skip | go_guarded | go_step | go_upon | (simp only []; go_at_K))
  ((with_reducible refine (alogLay w2 A1 m.length c1 m hM hmm (by omega) (by omega)).mono ?_); rintro e w3 ⟨A2, k2, c2, rfl, ho2, hu3⟩)
  have hM3 := hM.upd hu3
  have U3 := (U2.trans hu3).gives (b' := []) (by simp)
  have HK := Lib.hid ho2.len
  have hc2 := ho2.own.cap
  clear hM U2 hu3
  repeat' ((fail_if_success (with_reducible refine stop_append rfl ?_)); (fail_if_success (with_reducible refine stop_copy rfl ?_)); first | go_values | go_skip | go_guarded | go_step | go_upon | (simp only []; go_at_K))
  ((with_reducible refine (alogRead_all w3 A2 k2 c2 _ ho2.rd hc2.1 hc2.2 (by have := HK.out; omega)).mono ?_); rintro e w4 ⟨A3, k3, c3, xs, rfl, hxs, hR, hu4⟩)
  rw [readB_lay' (rcs_may hmm)] at hxs ⊢
  simp only at hxs
  have hM4 := hM3.upd hu4
  have hX4 := hR.rvs
  have U4 := (U3.trans hu4).gives (b' := []) (by simp)
  rw [← HK.out]
  clear hM3 U3 hu4 ho2 hR
  repeat' ((fail_if_success (with_reducible refine stop_append rfl ?_)); (fail_if_success (with_reducible refine stop_copy rfl ?_)); first | go_values | go_skip | go_guarded | go_step | go_upon | (simp only []; go_at_K))
  ((with_reducible refine (law07Real w4 A1 m.length c1 m hM4 (by omega)).mono ?_); rintro e w5 ⟨A5, c5, rfl, ho5, hu5⟩)
  have hM5 := hM4.upd hu5
  have hX5 := hX4.upd hu5
  have hV5 : Rvs w5 A5 m.length m := ⟨⟨rfl, ho5.rd⟩, hM5.each⟩
  have U5 := (U4.trans hu5).gives (b' := []) (by simp)
  have hxl : xs.length ≤ 1099511627776 := by have := congrArg List.length hxs; simp [rcs] at this; omega
  clear hM4 hX4 U4 hu5 ho5
  repeat' ((fail_if_success (with_reducible refine stop_append rfl ?_)); (fail_if_success (with_reducible refine stop_copy rfl ?_)); first | go_values | go_skip | go_guarded | go_step | go_upon | (simp only []; go_at_K))
  ((with_reducible refine (law07Same w5 A3 k3 c3 xs hX5 A5 m.length c5 m hV5 hxs hxl).mono ?_); rintro e w6 ⟨rfl, hu6⟩)
  have hM6 := hM5.upd hu6
  have U6 := U5.trans hu6
  clear hM5 hX5 hV5 U5 hu6
  repeat' ((fail_if_success (with_reducible refine stop_append rfl ?_)); (fail_if_success (with_reducible refine stop_copy rfl ?_)); first | go_values | go_skip | go_guarded | go_step | go_upon | (simp only []; go_at_K))
  go_loopw [9, 10, 11, 12, 13] (fun v9 _ _ _ _ wr => ∃ i : Nat, i ≤ m.length ∧ v9 = .int .i64 (i : Int) ∧ Rvs wr A1 m.length m ∧ Upd [] [] w wr)
    (fun v9 _ _ _ _ _ => m.length - (intOf v9).toNat)
  case atStart => exact ⟨0, by omega, rfl, hM6, U6⟩
  case round =>
    clear hM6 U6
    obtain ⟨i, hi, rfl, hMr, Ur⟩ := hrel
    clear hxs hxl
    by_cases hlt : i < m.length
    · have hii : (i : Int) < (m.length : Int) := by omega
      obtain ⟨ad, hA, q0, q1, q2, q3, q4⟩ := hMr.at_ hlt
      subst hA
      have hxr := hMr.each _ (List.getElem_mem hlt)
      have hxM := hmm _ (List.getElem_mem hlt)
      generalize m[i] = x at *
      have hxl := hxM.len
      have C := alogEncode x wr hxr hxM
      rw [Rv.val_eq] at C
      repeat' ((fail_if_success (with_reducible refine stop_append rfl ?_)); (fail_if_success (with_reducible refine stop_copy rfl ?_)); first | go_values | go_skip | go_guarded | go_step | go_upon | (simp only []; go_at_K))
      ((with_reducible refine C.mono ?_); rintro e w7 ⟨A7, k7, c7, rfl, ho7, hu7⟩)
      have hx7 := hxr.upd hu7 (by simp)
      have hM7 := hMr.upd hu7
      have p0 := hu7.cell q0 (by simp)
      have p1 := hu7.cell q1 (by simp)
      have p2 := hu7.cell q2 (by simp)
      have p3 := hu7.cell q3 (by simp)
      have p4 := hu7.cell q4 (by simp)
      have U7 := (Ur.trans hu7).gives (b' := []) (by simp)
      clear C q0 q1 q2 q3 q4 hxr Ur hu7 hMr
      repeat' ((fail_if_success (with_reducible refine stop_append rfl ?_)); (fail_if_success (with_reducible refine stop_copy rfl ?_)); first | go_values | go_skip | go_guarded | go_step | go_upon | (simp only []; go_at_K))
      ((with_reducible refine (alogDecode w7 A7 k7 c7 _ ho7.rd (by omega)).mono ?_); rintro e w8 ⟨hD, hu8⟩)
      have hx8 := hx7.upd hu8 (by simp)
      have hM8 := hM7.upd hu8
      have q0 := hu8.cell p0 (by simp)
      have q1 := hu8.cell p1 (by simp)
      have q2 := hu8.cell p2 (by simp)
      have q3 := hu8.cell p3 (by simp)
      have q4 := hu8.cell p4 (by simp)
      have U8 := U7.trans hu8
      have hd := decR_some (b := x.rc.bytes) (r := x.rc) ⟨hxM, rfl⟩
      clear p0 p1 p2 p3 p4 hx7 U7 hu8 ho7 hM7
      rcases hD with ⟨hd2, -⟩ | ⟨y, hd2, hoy, rfl⟩
      · rw [hd] at hd2; cases hd2
      rw [hd] at hd2
      injection hd2 with hyx
      have hyb := Blk.new w8 38 #[.int .i64 y.k, .int .i64 y.s, .int .i64 y.r, .int .i64 y.t, .slice y.A y.n y.c]
      have U9 : Upd [] [] w8 (w8.alloc (.cells #[.int .i64 y.k, .int .i64 y.s, .int .i64 y.r, .int .i64 y.t, .slice y.A y.n y.c] 38)) := (Upd.refl [] w8).alloc _
      have p0 := U9.cell q0 (by simp)
      have p1 := U9.cell q1 (by simp)
      have p2 := U9.cell q2 (by simp)
      have p3 := U9.cell q3 (by simp)
      have p4 := U9.cell q4 (by simp)
      have hx9 := hx8.upd U9 (by simp)
      have hM9 := hM8.upd U9
      have hy9 := hoy.rd.upd U9 (by simp)
      have U10 := U8.trans U9
      obtain ⟨⟨b0, b1, b2, b3, b4⟩, -⟩ := hyb.c5
      clear q0 q1 q2 q3 q4 hx8 hoy U8 U9 hyb hd hxM hM8
      repeat' ((fail_if_success (with_reducible refine stop_append rfl ?_)); (fail_if_success (with_reducible refine stop_copy rfl ?_)); first | go_values | go_skip | go_guarded | go_step | go_upon | (simp only []; go_at_K))
      generalize w8.alloc (.cells #[.int .i64 y.k, .int .i64 y.s, .int .i64 y.r, .int .i64 y.t, .slice y.A y.n y.c] 38) = w9 at *
      have C := law07One y x w9.drew (Rd.drew hy9) (Rd.drew hx9) hyx.symm
      go_still_tail 12, (by kernel_rfl)
      change wpList _ _ _ _ _ w9.drew
      repeat' ((fail_if_success (with_reducible refine stop_append rfl ?_)); (fail_if_success (with_reducible refine stop_copy rfl ?_)); first | go_values | go_skip | go_guarded | go_step | go_upon | (simp only []; go_at_K))
      ((with_reducible refine C.mono ?_); rintro e w10 ⟨rfl, hu10⟩)
      have hM10 := hM9.upd (((Upd.refl [] w9).drew).trans hu10)
      have U11 := U10.trans (((Upd.refl [] w9).drew).trans hu10)
      clear C U10 hu10 hM9 hx9 hy9 p0 p1 p2 p3 p4 b0 b1 b2 b3 b4
      repeat' ((fail_if_success (with_reducible refine stop_append rfl ?_)); (fail_if_success (with_reducible refine stop_copy rfl ?_)); first | go_values | go_skip | go_guarded | go_step | go_upon | (simp only []; go_at_K))
      exact ⟨⟨i + 1, by omega, by simp, hM10, U11⟩, by simp [intOf]; omega⟩
    · obtain rfl : i = m.length := by omega
      have hii : ¬ ((m.length : Int) < (m.length : Int)) := by omega
      repeat' ((fail_if_success (with_reducible refine stop_append rfl ?_)); (fail_if_success (with_reducible refine stop_copy rfl ?_)); first | go_values | go_skip | go_guarded | go_step | go_upon | (simp only []; go_at_K))
      go_ret
      exact ⟨rfl, Ur⟩
end Go.Proofs.Ytdmkhmejpgjioaa
