/- agiolaw02.WireBack, walked. -/
import Derived.Test.YtchlceolccfdhaaDoorItems
import Derived.Test.YtchlceolccfdhaaDoorReader3
import Derived.Test.YtchlceolccfdhaaDoorPlainBack
import Derived.Deep.RegionWith
namespace Go.Proofs.YtchlceolccfdhaaDoor
open Go.RowKit Agio

theorem laid_split {l : List It} {i : Nat} (h : i < l.length) (h2 : i < 100) : ∃ r, (laidBytes l 100).drop (laidBytes l i).length = l[i].bytes ++ r := by
  have e : l.take 100 = l.take i ++ (l[i] :: (l.take 100).drop (i + 1)) := by
    have h3 : (l.take 100).drop i = l[i] :: (l.take 100).drop (i + 1) := by
      rw [List.drop_eq_getElem_cons (by simp; omega)]; simp
    rw [← h3, show l.take i = (l.take 100).take i by rw [List.take_take, Nat.min_eq_left (by omega)], List.take_append_drop]
  generalize (l.take 100).drop (i + 1) = t at e
  refine ⟨t.flatMap It.bytes, ?_⟩
  unfold laidBytes
  rw [e, List.flatMap_append, List.drop_left, List.flatMap_cons]
theorem laid_len_le {l : List It} {i : Nat} (h2 : i ≤ 100) : (laidBytes l i).length ≤ (laidBytes l 100).length := by
  unfold laidBytes
  rw [show l.take i = (l.take 100).take i by rw [List.take_take, Nat.min_eq_left (by omega)]]
  conv => rhs; rw [← List.take_append_drop i (l.take 100)]
  rw [List.flatMap_append, List.length_append]; omega
theorem tk_back {b r : List UInt8} (h : b.length < 9223372036854775808) : tk (b.length : Int) (leb b.length ++ b ++ r) = (b, (leb b.length).length + b.length, 0) := by
  have hu := uv_back (U64.small h) (b ++ r)
  rw [← List.append_assoc] at hu
  have hp : upt (b.length : Int) (leb b.length ++ b ++ r) = (b.length, (leb b.length).length, 0) := by unfold upt; rw [hu]; simp
  rw [tk_ok hp (by simp)]
  simp

set_option maxRecDepth 100000 in
set_option maxHeartbeats 4000000 in
theorem wireBack_any (w : World) (hAw : Calls Tryd.prog 17 #[] w fun ev w' => ev = .returned (.bool true) ∧ Upd [] [] w w') (A : Option Addr) (n c : Nat) (l : List It) (hl : Items w A n l)
    (hb : ∀ i, i ≤ l.length → i ≤ 100 → (laidBytes l i).length + 32 ≤ 140737488355328) (hn : n ≤ 140737488355328) (hbl : ∀ x ∈ l, x.b.length < 9223372036854775808) :
    Calls Tryd.prog 5 #[.slice A n c] w fun ev w' => ev = .returned (.bool true) ∧ Upd [] [] w w' := by
  obtain rfl := hl.len
  have HA := Lib.hid hAw; clear hAw
  have hb100 : (laidBytes l 100).length + 32 ≤ 140737488355328 := by
    rcases Nat.lt_or_ge 100 l.length with h | h
    · exact hb 100 (by omega) (by omega)
    · have := hb l.length (Nat.le_refl _) (by omega)
      unfold laidBytes at this ⊢
      rw [List.take_of_length_le (by omega)] at this ⊢
      exact this
  go_enter Tryd.func5, Tryd.ntmps5
  repeat' ((fail_if_success (refine stop_append rfl ?_)); (fail_if_success (refine stop_copy rfl ?_)); first | go_values | go_skip | go_guarded | go_step | go_upon | (simp only []; go_at_K))
  refine HA.out.mono ?_
  rintro ev w1 ⟨rfl, hu1⟩
  clear HA
  repeat' ((fail_if_success (refine stop_append rfl ?_)); (fail_if_success (refine stop_copy rfl ?_)); first | go_values | go_skip | go_guarded | go_step | go_upon | (simp only []; go_at_K))
  refine (lay_any w1 A l.length c l (hl.upd hu1) hb hn).mono ?_
  rintro ev w2 ⟨A2, k2, c2, rfl, ho2, hu2⟩
  repeat' ((fail_if_success (refine stop_append rfl ?_)); (fail_if_success (refine stop_copy rfl ?_)); first | go_values | go_skip | go_guarded | go_step | go_upon | (simp only []; go_at_K))
  refine (wireFrom w2 A2 k2 c2 _ ho2.rd (by omega)).mono ?_
  rintro ev w3 ⟨g, A3, k3, c3, rfl, hr3, hu3⟩
  have hU3 : Upd [] (g :: ablk A3) w w3 := ((hu1.trans hu2).gives (b' := []) (by simp)).trans hu3
  have hgw : w.heap.size ≤ g := by simpa using hU3.fresh g (by simp)
  have hU3g : Upd [] [g] w w3 := hU3.gives (by simp; exact hgw)
  clear hu1 hu2 hu3 ho2 hU3
  repeat' ((fail_if_success (refine stop_append rfl ?_)); (fail_if_success (refine stop_copy rfl ?_)); first | go_values | go_skip | go_guarded | go_step | go_upon | (simp only []; go_at_K))
  go_loopw [5] (fun v5 wr => ∃ (i : Nat), i ≤ l.length ∧ i ≤ 100 ∧ v5 = .int .i64 (i : Int) ∧ Rr wr g A3 k3 c3 (laidBytes l 100) (laidBytes l i).length ∧ Upd [] [g] w wr)
    (fun v5 _ => 100 - (intOf v5).toNat)
  case atStart => exact ⟨0, by omega, by omega, rfl, by simpa [laidBytes] using hr3, hU3g⟩
  case round =>
    obtain ⟨i, hi, hi100, rfl, hrr, hu⟩ := hrel
    have hlr := hl.upd hu
    have hlen : (laidBytes l 100).length ≤ 140737488355328 := by omega
    by_cases hlt : i < l.length
    · by_cases hlt2 : i < 100
      · obtain ⟨ad, rfl, h0, h1, h2⟩ := hlr.at_ hlt
        have hE := hlr.each l[i] (List.getElem_mem hlt)
        have hx := hbl l[i] (List.getElem_mem hlt)
        obtain ⟨r, hr⟩ := laid_split hlt hlt2
        have HS := Lib.hid (laidBytes_succ hlt)
        by_cases hk0 : l[i].kind = 0
        · have hk0' : (l[i].kind == 0) = true := by simp [hk0]
          have HB := Lib.hid (show l[i].bytes = leb l[i].n by simp [It.bytes, hk0])
          have C := readerUint wr g A3 k3 c3 _ _ hrr hlen
          rw [hr, HB.out, uv_back hE.2, flt_zero] at C
          clear hk0 hr
          repeat' ((fail_if_success (refine stop_append rfl ?_)); (fail_if_success (refine stop_copy rfl ?_)); first | go_values | go_skip | go_guarded | go_step | go_upon | (simp only []; go_at_K))
          refine C.mono ?_
          rintro ev w5 ⟨rfl, hr5, hu5⟩
          have hu6 := hu.trans hu5
          obtain ⟨ad', hA, h0', h1', h2'⟩ := (hl.upd hu6).at_ hlt
          obtain rfl : ad = ad' := by injection hA
          clear hA
          clear C
          repeat' ((fail_if_success (refine stop_append rfl ?_)); (fail_if_success (refine stop_copy rfl ?_)); first | go_values | go_skip | go_guarded | go_step | go_upon | (simp only []; go_at_K))
          refine ⟨⟨i + 1, by omega, by omega, by simp, ?_, hu6⟩, by simp [intOf]; omega⟩
          rw [HS.out, HB.out]; simpa using hr5
        · have hk0' : (l[i].kind == 0) = false := by simp [hk0]
          by_cases hk1 : l[i].kind = 1
          · have hk1' : (l[i].kind == 1) = true := by simp [hk1]
            have HB := Lib.hid (show l[i].bytes = leb (zig (wrap64 (l[i].n : Int))) by simp [It.bytes, hk1])
            have C := readerInt wr g A3 k3 c3 _ _ hrr hlen
            rw [hr, HB.out, uv_back (zig_U64 (I64_wrap _)), flt_zero] at C
            simp only [zag_zig] at C
            clear hk0 hk1 hr
            repeat' ((fail_if_success (refine stop_append rfl ?_)); (fail_if_success (refine stop_copy rfl ?_)); first | go_values | go_skip | go_guarded | go_step | go_upon | (simp only []; go_at_K))
            refine C.mono ?_
            rintro ev w5 ⟨rfl, hr5, hu5⟩
            have hu6 := hu.trans hu5
            obtain ⟨ad', hA, h0', h1', h2'⟩ := (hl.upd hu6).at_ hlt
            obtain rfl : ad = ad' := by injection hA
            clear hA
            clear C
            repeat' ((fail_if_success (refine stop_append rfl ?_)); (fail_if_success (refine stop_copy rfl ?_)); first | go_values | go_skip | go_guarded | go_step | go_upon | (simp only []; go_at_K))
            refine ⟨⟨i + 1, by omega, by omega, by simp, ?_, hu6⟩, by simp [intOf]; omega⟩
            rw [HS.out, HB.out]; simpa using hr5
          · have hk1' : (l[i].kind == 1) = false := by simp [hk1]
            have HB := Lib.hid (show l[i].bytes = leb l[i].b.length ++ l[i].b by simp [It.bytes, hk0, hk1])
            have hkl := hE.1.len
            have C := readerBytes wr g A3 k3 c3 _ _ (l[i].b.length : Int) (by unfold I64; omega) hrr hlen
            rw [hr, HB.out, tk_back hx, flt_zero] at C
            rw [← hkl] at C
            have HK := Lib.hid hkl; clear hkl
            clear hk0 hk1 hr
            repeat' ((fail_if_success (refine stop_append rfl ?_)); (fail_if_success (refine stop_copy rfl ?_)); first | go_values | go_skip | go_guarded | go_step | go_upon | (simp only []; go_at_K))
            refine C.mono ?_
            rintro ev w5 ⟨A5, k5, c5, rfl, ho5, hr5, hu5⟩
            have hu5 : Upd [g] [g] wr w5 := hu5.gives (by simp)
            have hu6 := hu.trans hu5
            obtain ⟨ad', hA, h0', h1', h2'⟩ := (hl.upd hu6).at_ hlt
            obtain rfl : ad = ad' := by injection hA
            clear hA
            have hs1 := fun N => strOf (ho5.rd.drewN N) c5
            have hs2 := fun N => strOf (((hl.upd hu6).each l[i] (List.getElem_mem hlt)).1.drewN N) l[i].c
            clear C
            repeat' ((fail_if_success (refine stop_append rfl ?_)); (fail_if_success (refine stop_copy rfl ?_)); first | go_values | go_skip | go_guarded | go_step | go_upon | (simp only []; go_at_K))
            go_quiet (fail)
            repeat' ((fail_if_success (refine stop_append rfl ?_)); (fail_if_success (refine stop_copy rfl ?_)); first | go_values | go_skip | go_guarded | go_step | go_upon | (simp only []; go_at_K))
            refine ⟨⟨i + 1, by omega, by omega, by simp, ?_, hu6.drewN nq⟩, by simp [intOf]; omega⟩
            rw [HS.out, HB.out]; simpa [HK.out] using hr5.drewN nq
      · have HE : Hid (laidBytes l i = laidBytes l 100) := by rw [show i = 100 by omega]; rfl
        have C1 := readerEnd wr g A3 k3 c3 _ _ hrr hlen
        rw [if_neg (by rw [HE.out]; omega), flt_zero] at C1
        repeat' ((fail_if_success (refine stop_append rfl ?_)); (fail_if_success (refine stop_copy rfl ?_)); first | go_values | go_skip | go_guarded | go_step | go_upon | (simp only []; go_at_K))
        refine C1.mono ?_
        rintro ev w5 ⟨rfl, nq, rfl⟩
        clear C1
        repeat' ((fail_if_success (refine stop_append rfl ?_)); (fail_if_success (refine stop_copy rfl ?_)); first | go_values | go_skip | go_guarded | go_step | go_upon | (simp only []; go_at_K))
        refine (readerLeft _ g A3 k3 c3 _ _ (hrr.drewN nq) hlen).mono ?_
        rintro ev w5 ⟨rfl, nq', rfl⟩
        rw [HE.out, Nat.sub_self]
        repeat' ((fail_if_success (refine stop_append rfl ?_)); (fail_if_success (refine stop_copy rfl ?_)); first | go_values | go_skip | go_guarded | go_step | go_upon | (simp only []; go_at_K))
        go_ret
        exact ⟨rfl, (hu.drewN (nq + nq')).gives (b' := []) (by simp)⟩
    · have HE : Hid (laidBytes l i = laidBytes l 100) := by unfold laidBytes Hid; rw [List.take_of_length_le (by omega), List.take_of_length_le (by omega)]
      have C1 := readerEnd wr g A3 k3 c3 _ _ hrr hlen
      rw [if_neg (by rw [HE.out]; omega), flt_zero] at C1
      repeat' ((fail_if_success (refine stop_append rfl ?_)); (fail_if_success (refine stop_copy rfl ?_)); first | go_values | go_skip | go_guarded | go_step | go_upon | (simp only []; go_at_K))
      refine C1.mono ?_
      rintro ev w5 ⟨rfl, nq, rfl⟩
      clear C1
      repeat' ((fail_if_success (refine stop_append rfl ?_)); (fail_if_success (refine stop_copy rfl ?_)); first | go_values | go_skip | go_guarded | go_step | go_upon | (simp only []; go_at_K))
      refine (readerLeft _ g A3 k3 c3 _ _ (hrr.drewN nq) hlen).mono ?_
      rintro ev w5 ⟨rfl, nq', rfl⟩
      rw [HE.out, Nat.sub_self]
      repeat' ((fail_if_success (refine stop_append rfl ?_)); (fail_if_success (refine stop_copy rfl ?_)); first | go_values | go_skip | go_guarded | go_step | go_upon | (simp only []; go_at_K))
      go_ret
      exact ⟨rfl, (hu.drewN (nq + nq')).gives (b' := []) (by simp)⟩
end Go.Proofs.YtchlceolccfdhaaDoor
