/- agiolaw02.WireLays, walked (the small thing that it asks first by its contract). -/
import Derived.Test.YtchlceolccfdhaaDoorItems
import Derived.Deep.RegionWith
namespace Go.Proofs.YtchlceolccfdhaaDoor
open Go.RowKit Agio

set_option maxRecDepth 100000 in
set_option maxHeartbeats 4000000 in
theorem wireLays_any (w : World) (hAw : Calls Tryd.prog 17 #[] w fun ev w' => ev = .returned (.bool true) ∧ Upd [] [] w w') (A : Option Addr) (n c : Nat) (l : List It) (hl : Items w A n l)
    (hb : ∀ i, i ≤ l.length → i ≤ 100 → (laidBytes l i).length + 32 ≤ 140737488355328) (hn : n ≤ 140737488355328) :
    Calls Tryd.prog 3 #[.slice A n c] w fun ev w' => ev = .returned (.bool true) ∧ Upd [] [] w w' := by
  obtain rfl := hl.len
  have HA := Lib.hid hAw; clear hAw
  go_enter Tryd.func3, Tryd.ntmps3
  repeat' ((fail_if_success (refine stop_append rfl ?_)); (fail_if_success (refine stop_copy rfl ?_)); first | go_values | go_skip | go_guarded | go_step | go_upon | (simp only []; go_at_K))
  refine HA.out.mono ?_
  rintro ev w1 ⟨rfl, hu1⟩
  clear HA
  repeat' ((fail_if_success (refine stop_append rfl ?_)); (fail_if_success (refine stop_copy rfl ?_)); first | go_values | go_skip | go_guarded | go_step | go_upon | (simp only []; go_at_K))
  go_loopw [4, 5] (fun v4 v5 wr => ∃ (i : Nat) (A2 : Option Addr) (k2 c2 : Nat), i ≤ l.length ∧ i ≤ 100 ∧ v5 = .int .i64 (i : Int) ∧ v4 = .slice A2 k2 c2 ∧ OwnB 5 wr A2 k2 c2 (laidBytes l i) ∧ Upd [] (ablk A2) w wr)
    (fun _ v5 _ => 100 - (intOf v5).toNat)
  case atStart => exact ⟨0, none, 0, 0, by omega, by omega, rfl, rfl, OwnB.nil _ _, hu1.gives (by simp [ablk])⟩
  case round =>
    obtain ⟨i, A2, k2, c2, hi, hi100, rfl, rfl, ho, hu⟩ := hrel
    have hlr := hl.upd hu
    by_cases hlt : i < l.length ∧ i < 100
    · obtain ⟨hlt, hlt2⟩ := hlt
      obtain ⟨ad, rfl, h0, h1, h2⟩ := hlr.at_ hlt
      have hE := hlr.each l[i] (List.getElem_mem hlt)
      have hbi := hb i (by omega) (by omega)
      have hbs := hb (i + 1) (by omega) (by omega)
      rw [laidBytes_succ hlt, List.length_append] at hbs
      have HS := Lib.hid (laidBytes_succ hlt)
      generalize l[i] = x at *
      by_cases hk0 : x.kind = 0
      · have hk0' : (x.kind == 0) = true := by simp [hk0]
        have HB := Lib.hid (show x.bytes = leb x.n by simp [It.bytes, hk0])
        have hbl : (leb x.n).length ≤ x.bytes.length := by rw [HB.out]; exact Nat.le_refl _
        clear hk0
        as_aux_lemma =>
        repeat' ((fail_if_success (refine stop_append rfl ?_)); (fail_if_success (refine stop_copy rfl ?_)); first | go_values | go_skip | go_guarded | go_step | go_upon | (simp only []; go_at_K))
        refine (refUint_any _ wr (by omega) (by simpa using hE.2)).mono ?_
        rintro ev w3 ⟨A3, k3, c3, rfl, ho3, hu3⟩
        rw [Int.toNat_natCast] at ho3
        have ho2 := ho.upd hu3 (by simp)
        repeat' ((fail_if_success (refine stop_append rfl ?_)); (fail_if_success (refine stop_copy rfl ?_)); first | go_values | go_skip | go_guarded | go_step | go_upon | (simp only []; go_at_K))
        refine wpList_appB rfl _ _ 24 rfl 5 Tryd.underlying24 infoU8 ho2 rfl ho3.rd rfl (by omega) ?_
        intro A4 k4 c4 w4 ho4 hu4
        repeat' ((fail_if_success (refine stop_append rfl ?_)); (fail_if_success (refine stop_copy rfl ?_)); first | go_values | go_skip | go_guarded | go_step | go_upon | (simp only []; go_at_K))
        refine ⟨⟨i + 1, A4, k4, c4, by omega, by omega, rfl, rfl, by rw [HS.out, HB.out]; exact ho4, hu.trans ((hu3.up _).trans hu4)⟩, by simp [intOf]; omega⟩
      · have hk0' : (x.kind == 0) = false := by simp [hk0]
        by_cases hk1 : x.kind = 1
        · have hk1' : (x.kind == 1) = true := by simp [hk1]
          have HB := Lib.hid (show x.bytes = leb (zig (wrap64 (x.n : Int))) by simp [It.bytes, hk1])
          have hbl : (leb (zig (wrap64 (x.n : Int)))).length ≤ x.bytes.length := by rw [HB.out]; exact Nat.le_refl _
          have hI : I64 (wrap64 (x.n : Int)) := I64_wrap _
          clear hk1
          repeat' ((fail_if_success (refine stop_append rfl ?_)); (fail_if_success (refine stop_copy rfl ?_)); first | go_values | go_skip | go_guarded | go_step | go_upon | (simp only []; go_at_K))
          generalize wrap64 (x.n : Int) = z at *
          have hzU := zig_U64 hI
          refine (refZig z wr hI).mono ?_
          rintro ev w3 ⟨rfl, rfl⟩
          repeat' ((fail_if_success (refine stop_append rfl ?_)); (fail_if_success (refine stop_copy rfl ?_)); first | go_values | go_skip | go_guarded | go_step | go_upon | (simp only []; go_at_K))
          generalize zig z = y at *
          refine (refUint_any (y : Int) wr (by omega) (by rw [Int.toNat_natCast]; exact hzU)).mono ?_
          rintro ev w3 ⟨A3, k3, c3, rfl, ho3, hu3⟩
          rw [Int.toNat_natCast] at ho3
          have ho2 := ho.upd hu3 (by simp)
          repeat' ((fail_if_success (refine stop_append rfl ?_)); (fail_if_success (refine stop_copy rfl ?_)); first | go_values | go_skip | go_guarded | go_step | go_upon | (simp only []; go_at_K))
          refine wpList_appB rfl _ _ 24 rfl 5 Tryd.underlying24 infoU8 ho2 rfl ho3.rd rfl (by omega) ?_
          intro A4 k4 c4 w4 ho4 hu4
          repeat' ((fail_if_success (refine stop_append rfl ?_)); (fail_if_success (refine stop_copy rfl ?_)); first | go_values | go_skip | go_guarded | go_step | go_upon | (simp only []; go_at_K))
          refine ⟨⟨i + 1, A4, k4, c4, by omega, by omega, rfl, rfl, by rw [HS.out, HB.out]; exact ho4, hu.trans ((hu3.up _).trans hu4)⟩, by simp [intOf]; omega⟩
        · have hk1' : (x.kind == 1) = false := by simp [hk1]
          have HB := Lib.hid (show x.bytes = leb x.b.length ++ x.b by simp [It.bytes, hk0, hk1])
          have hbl : x.b.length + (leb x.b.length).length ≤ x.bytes.length := by rw [HB.out]; simp; omega
          clear hk0 hk1
          as_aux_lemma =>
          repeat' ((fail_if_success (refine stop_append rfl ?_)); (fail_if_success (refine stop_copy rfl ?_)); first | go_values | go_skip | go_guarded | go_step | go_upon | (simp only []; go_at_K))
          refine (refBytes wr x.A x.k x.c x.b hE.1 (by omega)).mono ?_
          rintro ev w3 ⟨A3, k3, c3, rfl, ho3, hu3⟩
          have ho2 := ho.upd hu3 (by simp)
          repeat' ((fail_if_success (refine stop_append rfl ?_)); (fail_if_success (refine stop_copy rfl ?_)); first | go_values | go_skip | go_guarded | go_step | go_upon | (simp only []; go_at_K))
          refine wpList_appB rfl _ _ 24 rfl 5 Tryd.underlying24 infoU8 ho2 rfl ho3.rd rfl (by simp; omega) ?_
          intro A4 k4 c4 w4 ho4 hu4
          repeat' ((fail_if_success (refine stop_append rfl ?_)); (fail_if_success (refine stop_copy rfl ?_)); first | go_values | go_skip | go_guarded | go_step | go_upon | (simp only []; go_at_K))
          refine ⟨⟨i + 1, A4, k4, c4, by omega, by omega, rfl, rfl, by rw [HS.out, HB.out]; exact ho4, hu.trans ((hu3.up _).trans hu4)⟩, by simp [intOf]; omega⟩
    · have HE : Hid (laidBytes l i = laidBytes l 100) := by
        unfold laidBytes Hid
        rcases Nat.lt_or_ge i l.length with h | h
        · rw [show i = 100 by omega]
        · rw [List.take_of_length_le (by omega), List.take_of_length_le (by omega)]
      have ho' := ho
      rw [HE.out] at ho'
      have hw0 := strOf ho'.rd c2
      by_cases h100 : i < l.length
      · have hnot : ¬ i < 100 := by omega
        have hlt3 : ¬ ((i : Int) < 100) := by omega
        clear HE ho
        repeat' ((fail_if_success (refine stop_append rfl ?_)); (fail_if_success (refine stop_copy rfl ?_)); first | go_values | go_skip | go_guarded | go_step | go_upon | (simp only []; go_at_K))
        have hwd := strOf ho'.drew.rd c2
        have hld := hlr.upd (b := []) (Upd.refl [] wr).drew
        go_region_with (first
          | (go_at_call 21; refine (lay_any _ A l.length c l hld hb hn).mono ?_; rintro ev w5 ⟨A5, k5, c5, rfl, ho5, hu5⟩; have hst5 := strOf ho5.rd c5; have hsw5 := strOf (ho'.drew.upd hu5 (by simp)).rd c2))
        all_goals (repeat' ((fail_if_success (refine stop_append rfl ?_)); (fail_if_success (refine stop_copy rfl ?_)); first | go_values | go_skip | go_guarded | go_step | go_upon | (simp only []; go_at_K)))
        all_goals go_ret
        all_goals exact ⟨rfl, ((((hu.gives (b' := []) (by simp)).drew).trans hu5).gives (b' := []) (by simp))⟩
      · have hlt3 : ¬ ((i : Int) < (l.length : Int)) := by omega
        clear HE ho
        repeat' ((fail_if_success (refine stop_append rfl ?_)); (fail_if_success (refine stop_copy rfl ?_)); first | go_values | go_skip | go_guarded | go_step | go_upon | (simp only []; go_at_K))
        have hwd := strOf ho'.drew.rd c2
        have hld := hlr.upd (b := []) (Upd.refl [] wr).drew
        go_region_with (first
          | (go_at_call 21; refine (lay_any _ A l.length c l hld hb hn).mono ?_; rintro ev w5 ⟨A5, k5, c5, rfl, ho5, hu5⟩; have hst5 := strOf ho5.rd c5; have hsw5 := strOf (ho'.drew.upd hu5 (by simp)).rd c2))
        all_goals (repeat' ((fail_if_success (refine stop_append rfl ?_)); (fail_if_success (refine stop_copy rfl ?_)); first | go_values | go_skip | go_guarded | go_step | go_upon | (simp only []; go_at_K)))
        all_goals go_ret
        all_goals exact ⟨rfl, ((((hu.gives (b' := []) (by simp)).drew).trans hu5).gives (b' := []) (by simp))⟩
end Go.Proofs.YtchlceolccfdhaaDoor
