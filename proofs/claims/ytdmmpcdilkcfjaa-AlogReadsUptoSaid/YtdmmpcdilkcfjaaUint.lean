/- The number's bytes: agioref02.Uint. -/
import Derived.Test.YtdmmpcdilkcfjaaProg
import Derived.Test.YtdmmpcdilkcfjaaBase
import Derived.Test.YtdmmpcdilkcfjaaPlainWire
namespace Go.Proofs.Ytdmmpcdilkcfjaa
open Go.RowKit Agio

theorem infoU8 : (Try.prog.info? 5).map (fun i => (i.zero, i.size, i.bytes)) = some (some (.int .u8 0), 1, 1) := by kernel_rfl

set_option maxRecDepth 100000 in
set_option maxHeartbeats 400000 in
theorem refUint_any (n : Int) (w : World) (h0 : 0 ≤ n) (hU : U64 n.toNat) :
    Calls Try.prog 78 #[.int .u64 n] w fun e w' => ∃ A k c, e = .returned (.slice A k c) ∧ OwnB 5 w' A k c (leb n.toNat) ∧ Upd [] (ablk A) w w' := by
  go_enter Try.func78, Try.ntmps78
  repeat' ((fail_if_success (with_reducible refine stop_append rfl ?_)); (fail_if_success (with_reducible refine stop_copy rfl ?_)); first | go_values | go_skip | go_guarded | go_step | go_upon | (simp only []; go_at_K))
  go_loopw [0, 3] (fun v0 v3 wr => ∃ m : Int, 0 ≤ m ∧ ∃ (l : List UInt8) (A : Option Addr) (k c : Nat), v0 = .int .u64 m ∧ v3 = .slice A k c ∧ U64 m.toNat ∧ l ++ leb m.toNat = leb n.toNat ∧ OwnB 5 wr A k c l ∧ Upd [] (ablk A) w wr)
    (fun v0 _ _ => (intOf v0).toNat)
  case atStart => exact ⟨n, h0, [], _, _, _, rfl, rfl, hU, rfl, OwnB.nil _ _, Upd.refl _ _⟩
  case round =>
    obtain ⟨m, hm0, l, A, k, c, rfl, rfl, hmU, hl, hown, hu⟩ := hrel
    have hlen : l.length ≤ 10 := by have := leb_len hU; rw [← hl, List.length_append] at this; omega
    have HL := Lib.hid hl; clear hl
    by_cases hm : 128 ≤ m
    · repeat' ((fail_if_success (with_reducible refine stop_append rfl ?_)); (fail_if_success (with_reducible refine stop_copy rfl ?_)); first | go_values | go_skip | go_guarded | go_step | go_upon | (simp only []; go_at_K))
      refine wpList_pushB rfl _ _ 22 rfl 5 Try.underlying22 infoU8 hown rfl _ rfl _ rfl (m.toNat % 128 + 128) (by omega) (by omega) (by omega) ?_
      intro A' k' c' w1 hown1 hu1
      repeat' ((fail_if_success (with_reducible refine stop_append rfl ?_)); (fail_if_success (with_reducible refine stop_copy rfl ?_)); first | go_values | go_skip | go_guarded | go_step | go_upon | (simp only []; go_at_K))
      rw [u64_div hm0 hmU 128 (by omega)]
      refine ⟨⟨_, Int.ediv_nonneg hm0 (by omega), _, _, _, _, rfl, rfl, hmU.le (by omega), ?_, hown1, hu.trans hu1⟩, by simp [intOf]; omega⟩
      rw [← HL.out, leb_ge (n := m.toNat) (by omega), List.append_assoc, List.singleton_append, show (m / 128).toNat = m.toNat / 128 by omega]
    · repeat' ((fail_if_success (with_reducible refine stop_append rfl ?_)); (fail_if_success (with_reducible refine stop_copy rfl ?_)); first | go_values | go_skip | go_guarded | go_step | go_upon | (simp only []; go_at_K))
      refine wpList_pushB rfl _ _ 22 rfl 5 Try.underlying22 infoU8 hown rfl _ rfl _ rfl m.toNat (by omega) (by omega) (by omega) ?_
      intro A' k' c' w1 hown1 hu1
      repeat' ((fail_if_success (with_reducible refine stop_append rfl ?_)); (fail_if_success (with_reducible refine stop_copy rfl ?_)); first | go_values | go_skip | go_guarded | go_step | go_upon | (simp only []; go_at_K))
      go_ret
      refine ⟨_, _, _, rfl, ?_, hu.trans hu1⟩
      rw [← HL.out, leb_lt (n := m.toNat) (by omega)]
      exact hown1
end Go.Proofs.Ytdmmpcdilkcfjaa
