/- Records: the law's same. -/
import Derived.Test.YtdmmpcdilkcfjaaAlog7
namespace Go.Proofs.Ytdmmpcdilkcfjaa
open Go.RowKit Agio

set_option maxRecDepth 100000 in
set_option maxHeartbeats 2000000 in
theorem law07Same (w : World) (A : Option Addr) (n c : Nat) (la : List Rv) (ha : Rvs w A n la) (A2 : Option Addr) (n2 c2 : Nat) (lb : List Rv) (hb : Rvs w A2 n2 lb) (h : rcs la = rcs lb) (hlm : la.length ≤ 1099511627776) :
    Calls Try.prog 35 #[.slice A n c, .slice A2 n2 c2] w fun e w' => e = .returned (.bool true) ∧ Upd [] [] w w' := by
  obtain rfl := ha.len
  obtain rfl := hb.len
  have hl : la.length = lb.length := by simpa [rcs] using congrArg List.length h
  rw [← hl]
  go_enter Try.func35, Try.ntmps35
  repeat' ((fail_if_success (with_reducible refine stop_append rfl ?_)); (fail_if_success (with_reducible refine stop_copy rfl ?_)); first | go_values | go_skip | go_guarded | go_step | go_upon | (simp only []; go_at_K))
  go_loopw [5] (fun v5 wr => ∃ i : Nat, i ≤ la.length ∧ v5 = .int .i64 (i : Int) ∧ Upd [] [] w wr)
    (fun v5 _ => la.length - (intOf v5).toNat)
  case atStart => exact ⟨0, by omega, rfl, Upd.refl _ _⟩
  case round =>
    obtain ⟨i, hi, rfl, hu⟩ := hrel
    by_cases hlt : i < la.length
    · have hlt2 : i < lb.length := by omega
      have hii : (i : Int) < (la.length : Int) := by omega
      have ha1 := ha.upd hu
      have hb1 := hb.upd hu
      obtain ⟨ad, hA, p0, p1, p2, p3, p4⟩ := ha1.at_ hlt
      obtain ⟨ad2, hA2, q0, q1, q2, q3, q4⟩ := hb1.at_ hlt2
      subst hA hA2
      have hx := ha1.each _ (List.getElem_mem hlt)
      have hy := hb1.each _ (List.getElem_mem hlt2)
      have hxy : la[i].rc = lb[i].rc := by
        have h1 : (rcs la)[i]'(by simpa [rcs] using hlt) = (rcs lb)[i]'(by simpa [rcs] using hlt2) := by simp only [h]
        simpa [rcs] using h1
      generalize la[i] = x at *
      generalize lb[i] = y at *
      have HL := Lib.hid hl
      clear hl ha hb ha1 hb1 h
      have C := ref07One x y wr.drew (Rd.drew hx) (Rd.drew hy) hxy
      repeat' ((fail_if_success (with_reducible refine stop_append rfl ?_)); (fail_if_success (with_reducible refine stop_copy rfl ?_)); first | go_values | go_skip | go_guarded | go_step | go_upon | (simp only []; go_at_K))
      go_still_tail 8, (by kernel_rfl)
      change wpList _ _ _ _ _ wr.drew
      repeat' ((fail_if_success (with_reducible refine stop_append rfl ?_)); (fail_if_success (with_reducible refine stop_copy rfl ?_)); first | go_values | go_skip | go_guarded | go_step | go_upon | (simp only []; go_at_K))
      ((with_reducible refine C.mono ?_); rintro e w2 ⟨rfl, hu2⟩)
      have U2 := hu.trans (((Upd.refl [] wr).drew).trans hu2)
      clear C hu2 hu p0 p1 p2 p3 p4 q0 q1 q2 q3 q4
      repeat' ((fail_if_success (with_reducible refine stop_append rfl ?_)); (fail_if_success (with_reducible refine stop_copy rfl ?_)); first | go_values | go_skip | go_guarded | go_step | go_upon | (simp only []; go_at_K))
      exact ⟨⟨i + 1, by omega, by simp, U2⟩, by simp [intOf]; omega⟩
    · obtain rfl : i = la.length := by omega
      have hii : ¬ ((la.length : Int) < (la.length : Int)) := by omega
      repeat' ((fail_if_success (with_reducible refine stop_append rfl ?_)); (fail_if_success (with_reducible refine stop_copy rfl ?_)); first | go_values | go_skip | go_guarded | go_step | go_upon | (simp only []; go_at_K))
      go_ret
      exact ⟨rfl, hu⟩

end Go.Proofs.Ytdmmpcdilkcfjaa
