/- Records: agiolaw07.AlogTorn. -/
import Derived.Test.YtdmkhmejpgjioaaAlogB
import Derived.Deep.Cut
import Derived.Deep.RegionHeld3
namespace Go.Proofs.Ytdmkhmejpgjioaa
open Go.RowKit Agio

theorem wrap_small {x : Int} (h0 : 0 ≤ x) (h1 : x ≤ 9223372036854775807) : wrap64 x = x := by unfold wrap64; omega
theorem flat_take {l : List Rv} {j : Nat} (_ : j ≤ l.length) : (l.flatMap Rv.cells).take (j * 5) = (l.take j).flatMap Rv.cells := by
  have h1 : l.flatMap Rv.cells = (l.take j).flatMap Rv.cells ++ (l.drop j).flatMap Rv.cells := by rw [← List.flatMap_append, List.take_append_drop]
  have h2 : ((l.take j).flatMap Rv.cells).length = j * 5 := by rw [flat_len Rv.cells_len, List.length_take_of_le (by omega)]
  rw [h1, ← h2, List.take_left']; rfl
theorem flat_drop {l : List Rv} {j : Nat} (_ : j ≤ l.length) : (l.flatMap Rv.cells).drop (j * 5) = (l.drop j).flatMap Rv.cells := by
  have h1 : l.flatMap Rv.cells = (l.take j).flatMap Rv.cells ++ (l.drop j).flatMap Rv.cells := by rw [← List.flatMap_append, List.take_append_drop]
  have h2 : ((l.take j).flatMap Rv.cells).length = j * 5 := by rw [flat_len Rv.cells_len, List.length_take_of_le (by omega)]
  rw [h1, ← h2, List.drop_left']; rfl
theorem Rvs.take {w : World} {A : Option Addr} {n : Nat} {l : List Rv} (h : Rvs w A n l) {j : Nat} (hj : j ≤ l.length) : Rvs w A j (l.take j) := by
  have hl := h.len
  refine ⟨⟨by simp; omega, ?_⟩, fun x hx => h.each x (List.mem_of_mem_take hx)⟩
  have := h.rd.rd.take (k := j) (by omega)
  rwa [flat_take hj] at this
theorem Rvs.one {w : World} {A : Option Addr} {n c : Nat} {l : List Rv} (h : Rvs w A n l) (hc : n ≤ c) {j : Nat} (hj : j < l.length) : Rvs w (if c = j then A else A.map (·.add (j * 5))) 1 [l[j]] := by
  have hl := h.len
  refine ⟨⟨rfl, ?_⟩, fun x hx => h.each x (by rw [List.mem_singleton.1 hx]; exact List.getElem_mem hj)⟩
  have h1 := h.rd.rd.cut (k := j) (cap := c) (by omega) hc
  rw [flat_drop (by omega)] at h1
  have h2 := h1.take (k := 1) (by omega)
  rw [List.drop_eq_getElem_cons hj] at h2
  have h3 : (((l[j] :: l.drop (j + 1)).flatMap Rv.cells)).take (1 * 5) = [l[j]].flatMap Rv.cells := by
    rw [List.flatMap_cons, List.take_left' (by rw [Rv.cells_len])]; simp
  rwa [h3] at h2

set_option maxRecDepth 100000 in
set_option maxHeartbeats 40000000 in
theorem alogTorn_any (w : World) (A : Option Addr) (n c : Nat) (l : List Rv) (hr : Rvs w A n l) (hlm : l.length ≤ 140737488355328) (t : Nat) (ht : t < 65536)
    (B : Option Addr) (p d : Nat) (b : List UInt8) (hB : RdB w B p b) (hb : b.length ≤ 1048576) :
    Calls Try.prog 4 #[.slice A n c, .int .u16 (t : Int), .slice B p d] w fun e w' => e = .returned (.bool true) ∧ Upd [] [] w w' := by
  go_enter Try.func4, Try.ntmps4
  repeat' ((fail_if_success (with_reducible refine stop_append rfl ?_)); (fail_if_success (with_reducible refine stop_copy rfl ?_)); first | go_values | go_skip | go_guarded | go_step | go_upon | (simp only []; go_at_K))
  ((with_reducible refine (awake07 _).mono ?_); rintro e w1 ⟨rfl, hu1⟩)
  have hr1 := hr.upd hu1
  repeat' ((fail_if_success (with_reducible refine stop_append rfl ?_)); (fail_if_success (with_reducible refine stop_copy rfl ?_)); first | go_values | go_skip | go_guarded | go_step | go_upon | (simp only []; go_at_K))
  ((with_reducible refine (law07May _ A n c l hr1 hlm).mono ?_); rintro e w2 ⟨A1, c1, m, rfl, ho1, hm, hm40, hu2⟩)
  have hM : Rvs w2 A1 m.length m := ⟨⟨rfl, ho1.rd⟩, fun x hx => (hr1.each x (hm x hx).1).upd hu2 (by simp)⟩
  have hmm : ∀ x ∈ m, x.rc.May := fun x hx => (hm x hx).2
  have hsm := lay_small hmm hm40
  have hc1 := ho1.cap.1
  have U2 := (hu1.trans hu2).gives (b' := []) (by simp)
  have hB2 := hB.upd U2 (by simp)
  clear hr hr1 hu1 hu2 ho1 hm hB
  repeat' ((fail_if_success (with_reducible refine stop_append rfl ?_)); (fail_if_success (with_reducible refine stop_copy rfl ?_)); first | go_values | go_skip | go_guarded | go_step | go_upon | (simp only []; go_at_K))
  ((with_reducible refine (alogLay w2 A1 m.length c1 m hM hmm (by omega) (by omega)).mono ?_); rintro e w3 ⟨A2, k2, c2, rfl, ho2, hu3⟩)
  have hM3 := hM.upd hu3
  have U3 := (U2.trans hu3).gives (b' := []) (by simp)
  have hB3 := hB2.upd hu3 (by simp)
  have HK := Lib.hid ho2.len
  have HC2 := Lib.hid ho2.own.cap
  have hk2 : k2 ≤ 84320 := by rw [HK.out]; exact hsm
  obtain ⟨kk, hkk⟩ : ∃ kk, t % (k2 + 1) = kk := ⟨_, rfl⟩
  have hkl : kk ≤ k2 := by have := Nat.mod_lt t (show 0 < k2 + 1 by omega); omega
  have hn0 : ((k2 : Int) + 1 == 0) = false := beq_false_of_ne (by omega)
  have ht1 : (t : Int).tmod ((k2 : Int) + 1) = (kk : Int) := by rw [← hkk]; rfl
  have hki : (kk : Int) ≤ (k2 : Int) := by omega
  have hkc : (kk : Int) ≤ (c2 : Int) := by have := HC2.out.1; omega
  clear hkk hM U2 hB2 hu3
  have hw1 : wrap64 (t : Int) = (t : Int) := wrap_small (by omega) (by omega)
  generalize (t : Int) = tn at *
  repeat' ((fail_if_success (with_reducible refine stop_append rfl ?_)); (fail_if_success (with_reducible refine stop_copy rfl ?_)); first | go_values | go_skip | go_guarded | go_step | go_upon | (simp only []; go_at_K))
  obtain ⟨j, hj1, hj2, hj3, hj4, hj5⟩ := readB_torn (rcs_may hmm) kk (by rw [← HK.out]; exact hkl)
  rw [show (rcs m).length = m.length by simp [rcs]] at hj1
  ((with_reducible refine (alogRead_all w3 A2 kk c2 _ (RdB.pre ho2.rd kk hkl) (by have := HC2.out.1; omega) HC2.out.2 (by rw [List.length_take]; have := HK.out; omega)).mono ?_); rintro e w4 ⟨A4, k4, c4, xs, rfl, hxs, hR, hu4⟩)
  rw [hj2] at hxs
  rw [hj3]
  have hxj : xs.length = j := by
    have := congrArg List.length hxs
    simp [rcs] at this
    omega
  obtain rfl : k4 = j := by rw [hR.len]; exact hxj
  have hM4 := hM3.upd hu4
  have hB4 := hB3.upd hu4 (by simp)
  have hb4 := ho2.upd hu4 (by simp)
  have hX4 := hR.rvs
  have U4 := (U3.trans hu4).gives (b' := []) (by simp)
  have hc4 := hR.own.cap.1
  obtain ⟨z, hz⟩ : ∃ z, (layB ((rcs m).take k4)).length = z := ⟨_, rfl⟩
  rw [hz] at hj4 hj5 ⊢
  clear ht1 hw1 hn0 hki hkc ho2 hM3 U3 hB3 hu4 hR hj2 hj3
  have hji : (k4 : Int) ≤ (m.length : Int) := by omega
  have hjc : (k4 : Int) ≤ (c1 : Int) := by omega
  have hzk : (z : Int) ≤ (kk : Int) := by omega
  repeat' ((fail_if_success (with_reducible refine stop_append rfl ?_)); (fail_if_success (with_reducible refine stop_copy rfl ?_)); first | go_values | go_skip | go_guarded | go_step | go_upon | (simp only []; go_at_K))
  have hlk : (m.take k4).length = k4 := by rw [List.length_take]; omega
  have C := law07Real w4 A1 k4 c1 (m.take k4) (hM4.take hj1) (by omega)
  rw [hlk] at C
  ((with_reducible refine C.mono ?_); rintro e w5 ⟨A5, c5, rfl, ho5, hu5⟩)
  have hM5 := hM4.upd hu5
  have hB5 := hB4.upd hu5 (by simp)
  have hb5 := hb4.upd hu5 (by simp)
  have hX5 := hX4.upd hu5
  have hV5 : Rvs w5 A5 k4 (m.take k4) := ⟨⟨hlk.symm, ho5.rd⟩, (hM5.take hj1).each⟩
  have U5 := (U4.trans hu5).gives (b' := []) (by simp)
  clear C hM4 hB4 hb4 hX4 U4 hu5 ho5
  repeat' ((fail_if_success (with_reducible refine stop_append rfl ?_)); (fail_if_success (with_reducible refine stop_copy rfl ?_)); first | go_values | go_skip | go_guarded | go_step | go_upon | (simp only []; go_at_K))
  ((with_reducible refine (law07Same w5 A4 k4 c4 xs hX5 A5 k4 c5 (m.take k4) hV5 (by rw [hxs]; simp [rcs]) (by omega)).mono ?_); rintro e w6 ⟨rfl, hu6⟩)
  have hM6 := hM5.upd hu6
  have hB6 := hB5.upd hu6 (by simp)
  have hb6 := hb5.upd hu6 (by simp)
  have U6 := U5.trans hu6
  clear hM5 hB5 hb5 hX5 hV5 U5 hu6 hxs hxj hji hjc hzk
  have HZ := Lib.hid hz
  clear hz
  go_upto_if 63 with fail
  go_cut [6] from 10 (fun s6 wc => s6 = .bool false ∧ Rvs wc A1 m.length m ∧ RdB wc B p b ∧ OwnB 5 wc A2 k2 c2 (layB (rcs m)) ∧ Upd [] [] w wc)
  case first =>
    by_cases hjm : k4 < m.length
    · have hji : (k4 : Int) < (m.length : Int) := by omega
      have hj1i : (k4 : Int) + 1 ≤ (c1 : Int) := by omega
      have hjc : (k4 : Int) ≤ (c1 : Int) := by omega
      have h5 := hj5 (by simpa [rcs] using hjm)
      have hrj : (rcs m)[k4]'(by simpa [rcs] using hjm) = m[k4].rc := by simp [rcs]
      rw [hrj] at h5
      clear hj5 hrj
      repeat' ((fail_if_success (with_reducible refine stop_append rfl ?_)); (fail_if_success (with_reducible refine stop_copy rfl ?_)); first | go_values | go_skip | go_guarded | go_step | go_upon | (simp only []; go_at_K))
      have C := alogLay w6 (A1.map (fun x => x.add (k4 * 5))) 1 (c1 - k4) [m[k4]] (by have := hM6.one hc1 hjm; rwa [if_neg (by omega)] at this) (fun x hx => by rw [List.mem_singleton.1 hx]; exact hmm _ (List.getElem_mem hjm)) (by decide) (by
        have := (hmm _ (List.getElem_mem hjm)).len
        simp [rcs, layB]; omega)
      ((with_reducible refine C.mono ?_); rintro e w7 ⟨A7, k7, c7, rfl, ho7, hu7⟩)
      have hk7 : k7 = (put m[k4].rc.bytes).length := by rw [ho7.len]; simp [rcs, layB]
      rw [← hk7] at h5
      have hM7 := hM6.upd hu7
      have hB7 := hB6.upd hu7 (by simp)
      have hb7 := hb6.upd hu7 (by simp)
      have U7 := (U6.trans hu7).gives (b' := []) (by simp)
      have h5i : ¬ ((z : Int) + (k7 : Int) ≤ (kk : Int)) := by omega
      have h5b : z + k7 ≤ 200000 := by
        have := (hmm _ (List.getElem_mem hjm)).len
        rw [put_len] at hk7
        omega
      clear C hM6 hB6 hb6 U6 hu7 ho7 hk7 hji hj1i hjc
      repeat' ((fail_if_success (with_reducible refine stop_append rfl ?_)); (fail_if_success (with_reducible refine stop_copy rfl ?_)); first | go_values | go_skip | go_guarded | go_step | go_upon | (simp only []; go_at_K))
      go_meet
      case rel => exact ⟨rfl, hM7, hB7, hb7, U7⟩
    · have hji : ¬ ((k4 : Int) < (m.length : Int)) := by omega
      clear hj5
      repeat' ((fail_if_success (with_reducible refine stop_append rfl ?_)); (fail_if_success (with_reducible refine stop_copy rfl ?_)); first | go_values | go_skip | go_guarded | go_step | go_upon | (simp only []; go_at_K))
      go_meet
      case rel => exact ⟨rfl, hM6, hB6, hb6, U6⟩
  case rest =>
    clear hM6 hB6 hb6 U6 hj5
    obtain ⟨rfl, hM6, hB6, hb6, U6⟩ := hcut
    repeat' ((fail_if_success (with_reducible refine stop_append rfl ?_)); (fail_if_success (with_reducible refine stop_copy rfl ?_)); first | go_values | go_skip | go_guarded | go_step | go_upon | (simp only []; go_at_K))
    refine wpList_appB rfl _ _ 25 rfl 5 Try.underlying25 infoU8 (OwnB.made 5 wc) rfl (hb6.rd.alloc _) rfl (by have := HK.out; simp only [List.length_nil]; omega) ?_
    intro A8 k8 c8 w8 ho8 hu8
    have V8 : Upd [] (ablk A8) wc w8 := (((Upd.refl [] wc).alloc (.cells #[] 5)).gives (b' := ablk (some ⟨wc.heap.size, 0, none⟩)) (by intro k hk; simp [ablk] at hk; subst hk; exact .inr (Nat.le_refl _))).trans hu8
    rw [List.nil_append] at ho8
    have hB8 := hB6.upd V8 (by simp)
    clear hu8
    repeat' ((fail_if_success (with_reducible refine stop_append rfl ?_)); (fail_if_success (with_reducible refine stop_copy rfl ?_)); first | go_values | go_skip | go_guarded | go_step | go_upon | (simp only []; go_at_K))
    refine wpList_appB rfl _ _ 25 rfl 5 Try.underlying25 infoU8 ho8 rfl hB8 rfl (by have := HK.out; omega) ?_
    intro A9 k9 c9 w9 ho9 hu9
    have V9 := V8.trans hu9
    have hM9 := hM6.upd (V9.gives (b' := []) (by simp))
    have U9 := U6.trans (V9.gives (b' := []) (by simp))
    have HC9 := Lib.hid ho9.own.cap
    have HL9 := Lib.hid ho9.len
    clear V8 V9 hu9 hB8 hM6 hB6 hb6 U6 ho8
    repeat' ((fail_if_success (with_reducible refine stop_append rfl ?_)); (fail_if_success (with_reducible refine stop_copy rfl ?_)); first | go_values | go_skip | go_guarded | go_step | go_upon | (simp only []; go_at_K))
    ((with_reducible refine (alogRead_all w9 A9 k9 c9 _ ho9.rd HC9.out.1 HC9.out.2 (by rw [List.length_append]; have := HK.out; omega)).mono ?_); rintro e w10 ⟨A10, k10, c10, ys, rfl, hys, hR, hu10⟩)
    rw [readB_lay (rcs_may hmm)] at hys ⊢
    simp only at hys ⊢
    have hM10 := hM9.upd hu10
    have hY10 := hR.rvs
    have U10 := (U9.trans hu10).gives (b' := []) (by simp)
    obtain ⟨s, hs⟩ : ∃ s, (layB (rcs m)).length + (readB b).2 = s := ⟨_, rfl⟩
    rw [hs]
    have hsk : (k2 : Int) ≤ (s : Int) := by have := HK.out; omega
    have hyl : m.length ≤ k10 := by
      have := congrArg List.length hys
      simp [rcs] at this
      have := hR.len
      omega
    have hyi : (m.length : Int) ≤ (k10 : Int) := by omega
    have hyc : (m.length : Int) ≤ (c10 : Int) := by have := hR.own.cap.1; omega
    have hyt : Rvs w10 A10 m.length (ys.take m.length) := hY10.take (by have := hR.len; omega)
    have hyr : rcs (ys.take m.length) = rcs m := by
      have h1 : rcs (ys.take m.length) = (rcs ys).take m.length := by simp [rcs]
      have h2 : m.length = (rcs m).length := by simp [rcs]
      rw [h1, hys, h2, List.take_left']; rfl
    have HS := Lib.hid hs
    clear hs hM9 U9 hu10 hR hY10 ho9 hys
    repeat' ((fail_if_success (with_reducible refine stop_append rfl ?_)); (fail_if_success (with_reducible refine stop_copy rfl ?_)); first | go_values | go_skip | go_guarded | go_step | go_upon | (simp only []; go_at_K))
    have hMd := hM10.upd (Upd.refl [] w10).drew
    have hyd := hyt.upd (Upd.refl [] w10).drew
    have hz1 : m.length ≤ 1099511627776 := by omega
    have hz2 : (ys.take m.length).length ≤ 1099511627776 := by rw [List.length_take]; omega
    clear hM10 hyt HS hlm ht hb hm40 hmm hsm hc1 HK HC2 hk2 hkl hyl HZ hj1 hj4 hlk hc4
    have Ud := U10.drew
    go_region_held3 (fun w' => Rvs w' A1 m.length m ∧ Rvs w' A10 m.length (ys.take m.length) ∧ Upd [] [] w w') (first | exact ⟨hMd, hyd, Ud⟩ | exact ⟨hM12, hy12, U12⟩ | exact ⟨hM13, hy13, U13⟩)
      (first
        | (go_at_call 24; (with_reducible refine (law07Real _ A1 m.length c1 m hMd hz1).mono ?_); rintro e w12 ⟨A12, c12, rfl, ho12, hu12⟩; have hM12 := hMd.upd hu12; have hV12 : Rvs w12 A12 m.length m := ⟨⟨rfl, ho12.rd⟩, hM12.each⟩; have hy12 := hyd.upd hu12; have U12 := (Ud.trans hu12).gives (b' := []) (by simp))
        | (go_at_call 23; (with_reducible refine (law07Same _ A10 m.length c10 (ys.take m.length) hy12 A12 m.length c12 m hV12 hyr hz2).mono ?_); rintro e w13 ⟨rfl, hu13⟩; have hM13 := hM12.upd hu13; have hy13 := hy12.upd hu13; have U13 := U12.trans hu13))
    all_goals (repeat' ((fail_if_success (with_reducible refine stop_append rfl ?_)); (fail_if_success (with_reducible refine stop_copy rfl ?_)); first | go_values | go_skip | go_guarded | go_step | go_upon | (simp only []; go_at_K)))
    all_goals go_ret
    all_goals exact ⟨rfl, U13⟩
end Go.Proofs.Ytdmkhmejpgjioaa
