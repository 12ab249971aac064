/- Records: agiolaw07.AlogAgain. -/
import Derived.Test.YtdmkhmejpgjioaaAlogB
namespace Go.Proofs.Ytdmkhmejpgjioaa
open Go.RowKit Agio

set_option maxRecDepth 100000 in
set_option maxHeartbeats 4000000 in
theorem alogAgain_any (w : World) (A : Option Addr) (n c : Nat) (b : List UInt8) (hr : RdB w A n b) (hc : n ≤ c) (hcm : c ≤ maxLen) (hb : b.length ≤ 1099511627776) :
    Calls Try.prog 5 #[.slice A n c] w fun e w' => e = .returned (.bool true) ∧ Upd [] [] w w' := by
  go_enter Try.func5, Try.ntmps5
  repeat' ((fail_if_success (with_reducible refine stop_append rfl ?_)); (fail_if_success (with_reducible refine stop_copy rfl ?_)); first | go_values | go_skip | go_guarded | go_step | go_upon | (simp only []; go_at_K))
  ((with_reducible refine (awake07 _).mono ?_); rintro e w1 ⟨rfl, hu1⟩)
  have hr1 := hr.upd hu1 (by simp)
  repeat' ((fail_if_success (with_reducible refine stop_append rfl ?_)); (fail_if_success (with_reducible refine stop_copy rfl ?_)); first | go_values | go_skip | go_guarded | go_step | go_upon | (simp only []; go_at_K))
  ((with_reducible refine (alogRead_all w1 A n c b hr1 hc hcm hb).mono ?_); rintro e w2 ⟨A1, k1, c1, xs, rfl, hxs, hR, hu2⟩)
  obtain ⟨hz1, hz2, hz3⟩ := readB_ok b
  rw [← hxs] at hz2 hz3
  have hr2 := hr1.upd hu2 (by simp)
  have hM : ∀ x ∈ xs, x.rc.May := fun x hx => hz3 _ (List.mem_map.2 ⟨x, hx, rfl⟩)
  have hV := hR.rvs
  have U2 := (hu1.trans hu2).gives (b' := []) (by simp)
  have hlz : (layB (rcs xs)).length ≤ b.length := by rw [hz2, List.length_take]; omega
  have h8 := layB_ge (rcs xs)
  have hkx := hR.len
  simp only [rcs, List.length_map] at h8
  simp only [rcs] at hlz
  obtain ⟨z, hz⟩ : ∃ z, (readB b).2 = z := ⟨_, rfl⟩
  rw [hz] at hz1 hz2 ⊢
  have HK := Lib.hid hkx
  have HN := Lib.hid hr.len
  clear hr hr1 hu1 hu2 hxs hz3 hR hkx
  repeat' ((fail_if_success (with_reducible refine stop_append rfl ?_)); (fail_if_success (with_reducible refine stop_copy rfl ?_)); first | go_values | go_skip | go_guarded | go_step | go_upon | (simp only []; go_at_K))
  ((with_reducible refine (alogLay w2 A1 k1 c1 xs hV hM (by have := HK.out; omega) (by simp only [rcs]; omega)).mono ?_); rintro e w3 ⟨A2, k2, c2, rfl, ho2, hu3⟩)
  rw [hz2] at ho2
  have hr3 := hr2.upd hu3 (by simp)
  have U3 := (U2.trans hu3).gives (b' := []) (by simp)
  have hzn : z ≤ n := by rw [HN.out]; exact hz1
  have hzi : (z : Int) ≤ (n : Int) := by omega
  have hzc : (z : Int) ≤ (c : Int) := by omega
  have s1 := fun N => strOf (ho2.rd.drewN N) c2
  have s2 := fun N => strOf ((RdB.pre hr3 z hzn).drewN N) c
  clear hV hr2 U2 hu3 hz1 hz2 hM hlz h8 hr3 hzn hz
  repeat' ((fail_if_success (with_reducible refine stop_append rfl ?_)); (fail_if_success (with_reducible refine stop_copy rfl ?_)); first | go_values | go_skip | go_guarded | go_step | go_upon | (simp only []; go_at_K))
  go_quiet (fail)
  clear s1 s2
  repeat' ((fail_if_success (with_reducible refine stop_append rfl ?_)); (fail_if_success (with_reducible refine stop_copy rfl ?_)); first | go_values | go_skip | go_guarded | go_step | go_upon | (simp only []; go_at_K))
  go_ret
  exact ⟨rfl, U3.drewN _⟩
end Go.Proofs.Ytdmkhmejpgjioaa
