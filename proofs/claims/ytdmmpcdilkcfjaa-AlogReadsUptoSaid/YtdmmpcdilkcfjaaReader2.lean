/- What is read, on: upTo, Uint, Int, Small, Bytes, End. -/
import Derived.Test.YtdmmpcdilkcfjaaReader
namespace Go.Proofs.Ytdmmpcdilkcfjaa
open Go.RowKit Agio

set_option maxRecDepth 100000 in
set_option maxHeartbeats 400000 in
theorem readerUpTo (w : World) (g : Nat) (A : Option Addr) (k c : Nat) (b : List UInt8) (a : Nat) (most : Int) (hm : I64 most) (hr : Rr w g A k c b a) (hb : b.length ≤ 140737488355328) :
    Calls Try.prog 138 #[.pointer (some ⟨g, 0, none⟩), .int .i64 most] w fun e w' => e = .returned (.tuple #[.int .i64 ((upt most (b.drop a)).1 : Int), .int .i64 ((upt most (b.drop a)).2.1 : Int), .int .i64 ((upt most (b.drop a)).2.2 : Int)]) ∧ ∃ n, w' = w.drewN n := by
  obtain ⟨l, hl⟩ : ∃ l, l = b.drop a := ⟨_, rfl⟩
  have C := readerNext w g A k c b a hr hb
  rw [← hl] at C ⊢
  clear hl
  obtain ⟨n, sz, bad, hu⟩ : ∃ n sz bad, uv l = (n, sz, bad) := ⟨_, _, _, rfl⟩
  have hok := uv_ok (l := l)
  have hbad := uv_bad (l := l)
  unfold I64 at hm
  rw [hu] at C hok hbad
  by_cases h0 : bad = 0
  · subst h0
    have hU := (hok rfl).2.2.2
    have hs := (hok rfl).2.2.1
    clear hok hbad
    by_cases h1 : most < 0
    · have E : Hid (upt most l = (0, 0, 8)) := by unfold upt Hid; rw [hu]; simp [h1]
      clear hu
      go_enter Try.func138, Try.ntmps138
      repeat' ((fail_if_success (with_reducible refine stop_append rfl ?_)); (fail_if_success (with_reducible refine stop_copy rfl ?_)); first | go_values | go_skip | go_guarded | go_step | go_upon | (simp only []; go_at_K))
      refine C.mono ?_
      rintro e w1 ⟨rfl, nq, rfl⟩
      repeat' ((fail_if_success (with_reducible refine stop_append rfl ?_)); (fail_if_success (with_reducible refine stop_copy rfl ?_)); first | go_values | go_skip | go_guarded | go_step | go_upon | (simp only []; go_at_K))
      go_ret3
      exact ⟨by rw [E.out]; rfl, nq, rfl⟩
    · by_cases h2 : most < (n : Int)
      · have E : Hid (upt most l = (0, 0, 8)) := by unfold upt Hid; rw [hu]; simp [h1, h2]
        clear hu
        go_enter Try.func138, Try.ntmps138
        repeat' ((fail_if_success (with_reducible refine stop_append rfl ?_)); (fail_if_success (with_reducible refine stop_copy rfl ?_)); first | go_values | go_skip | go_guarded | go_step | go_upon | (simp only []; go_at_K))
        refine C.mono ?_
        rintro e w1 ⟨rfl, nq, rfl⟩
        repeat' ((fail_if_success (with_reducible refine stop_append rfl ?_)); (fail_if_success (with_reducible refine stop_copy rfl ?_)); first | go_values | go_skip | go_guarded | go_step | go_upon | (simp only []; go_at_K))
        go_ret3
        exact ⟨by rw [E.out]; rfl, nq, rfl⟩
      · have E : Hid (upt most l = (n, sz, 0)) := by unfold upt Hid; rw [hu]; simp [h1, h2]
        clear hu
        go_enter Try.func138, Try.ntmps138
        repeat' ((fail_if_success (with_reducible refine stop_append rfl ?_)); (fail_if_success (with_reducible refine stop_copy rfl ?_)); first | go_values | go_skip | go_guarded | go_step | go_upon | (simp only []; go_at_K))
        refine C.mono ?_
        rintro e w1 ⟨rfl, nq, rfl⟩
        repeat' ((fail_if_success (with_reducible refine stop_append rfl ?_)); (fail_if_success (with_reducible refine stop_copy rfl ?_)); first | go_values | go_skip | go_guarded | go_step | go_upon | (simp only []; go_at_K))
        go_ret3
        exact ⟨by rw [E.out]; rfl, nq, rfl⟩
  · have E : Hid (upt most l = (0, 0, bad)) := by unfold upt Hid; rw [hu]; simp [h0]
    have h0' : ((bad : Int) == 0) = false := by simp; omega
    have h0n : ((bad : Int) != 0) = true := by simp; omega
    clear hu hok hbad
    go_enter Try.func138, Try.ntmps138
    repeat' ((fail_if_success (with_reducible refine stop_append rfl ?_)); (fail_if_success (with_reducible refine stop_copy rfl ?_)); first | go_values | go_skip | go_guarded | go_step | go_upon | (simp only []; go_at_K))
    refine C.mono ?_
    rintro e w1 ⟨rfl, nq, rfl⟩
    repeat' ((fail_if_success (with_reducible refine stop_append rfl ?_)); (fail_if_success (with_reducible refine stop_copy rfl ?_)); first | go_values | go_skip | go_guarded | go_step | go_upon | (simp only []; go_at_K))
    go_ret3
    exact ⟨by rw [E.out]; rfl, nq, rfl⟩



set_option maxRecDepth 100000 in
set_option maxHeartbeats 400000 in
theorem readerSmall (w : World) (g : Nat) (A : Option Addr) (k c : Nat) (b : List UInt8) (a : Nat) (most : Int) (hm : I64 most) (hr : Rr w g A k c b a) (hb : b.length ≤ 140737488355328) :
    Calls Try.prog 120 #[.pointer (some ⟨g, 0, none⟩), .int .i64 most] w fun e w' => e = .returned (.tuple #[.int .i64 ((upt most (b.drop a)).1 : Int), flt (upt most (b.drop a)).2.2 a]) ∧ Rr w' g A k c b (a + (upt most (b.drop a)).2.1) ∧ Upd [g] [g] w w' := by
  have C := readerUpTo w g A k c b a most hm hr hb
  have hok := upt_ok (l := b.drop a) (most := most)
  have hbad := upt_bad (l := b.drop a) (most := most)
  have huv := uv_ok (l := b.drop a)
  have hll : (b.drop a).length = b.length - a := by simp
  have hle := hr.le
  rw [hll] at huv
  have hc1 := hr.blk.cell 1
  have hf1 := hr.blk.frozen 1
  simp at hc1
  have HV := Lib.hid huv; clear huv hll
  obtain ⟨n, sz, bad, hu⟩ : ∃ n sz bad, upt most (b.drop a) = (n, sz, bad) := ⟨_, _, _, rfl⟩
  rw [hu] at C hok hbad ⊢
  clear hu
  by_cases h0 : bad = 0
  · subst h0
    obtain ⟨h1, h2, h3, h4⟩ := hok rfl
    have h5 := HV.out h1
    rw [← h2] at h5 h4
    have hs : sz ≤ 10 := h5.2.2.1
    have hs2 : a + sz ≤ b.length := by have : sz ≤ b.length - a := h5.2.1; omega
    clear hok hbad h1 h2 h5 HV
    simp only [flt_zero]
    go_enter Try.func120, Try.ntmps120
    repeat' ((fail_if_success (with_reducible refine stop_append rfl ?_)); (fail_if_success (with_reducible refine stop_copy rfl ?_)); first | go_values | go_skip | go_guarded | go_step | go_upon | (simp only []; go_at_K))
    refine C.mono ?_
    rintro e w1 ⟨rfl, nq, rfl⟩
    have P := (hr.drewN nq).put (a + sz) hs2
    repeat' ((fail_if_success (with_reducible refine stop_append rfl ?_)); (fail_if_success (with_reducible refine stop_copy rfl ?_)); first | go_values | go_skip | go_guarded | go_step | go_upon | (simp only []; go_at_K))
    go_ret2
    exact ⟨rfl, by simpa using P.1, by simpa using ((Upd.refl [g] w).drewN nq).trans P.2⟩
  · have h0' : ((bad : Int) == 0) = false := by simp; omega
    have h0n : ((bad : Int) != 0) = true := by simp; omega
    obtain ⟨rfl, rfl⟩ := hbad h0
    clear hok HV
    go_enter Try.func120, Try.ntmps120
    repeat' ((fail_if_success (with_reducible refine stop_append rfl ?_)); (fail_if_success (with_reducible refine stop_copy rfl ?_)); first | go_values | go_skip | go_guarded | go_step | go_upon | (simp only []; go_at_K))
    refine C.mono ?_
    rintro e w1 ⟨rfl, nq, rfl⟩
    repeat' ((fail_if_success (with_reducible refine stop_append rfl ?_)); (fail_if_success (with_reducible refine stop_copy rfl ?_)); first | go_values | go_skip | go_guarded | go_step | go_upon | (simp only []; go_at_K))
    refine (readerFault _ g A k c b a _ (hr.drewN nq)).mono ?_
    rintro e w1 ⟨rfl, rfl⟩
    repeat' ((fail_if_success (with_reducible refine stop_append rfl ?_)); (fail_if_success (with_reducible refine stop_copy rfl ?_)); first | go_values | go_skip | go_guarded | go_step | go_upon | (simp only []; go_at_K))
    go_ret2
    exact ⟨by simp only [flt_pos h0]; rfl, hr.drewN nq, (Upd.refl [g] w).drewN nq⟩

set_option maxRecDepth 100000 in
set_option maxHeartbeats 400000 in
theorem readerEnd (w : World) (g : Nat) (A : Option Addr) (k c : Nat) (b : List UInt8) (a : Nat) (hr : Rr w g A k c b a) (hb : b.length ≤ 140737488355328) :
    Calls Try.prog 122 #[.pointer (some ⟨g, 0, none⟩)] w fun e w' => e = .returned (flt (if a < b.length then 2 else 0) a) ∧ ∃ n, w' = w.drewN n := by
  have C := readerLeft w g A k c b a hr hb
  have hle := hr.le
  by_cases h : a < b.length
  · rw [if_pos h, flt_pos (by decide)]
    have h' : 0 < b.length - a := by omega
    go_enter Try.func122, Try.ntmps122
    repeat' ((fail_if_success (with_reducible refine stop_append rfl ?_)); (fail_if_success (with_reducible refine stop_copy rfl ?_)); first | go_values | go_skip | go_guarded | go_step | go_upon | (simp only []; go_at_K))
    refine C.mono ?_
    rintro e w1 ⟨rfl, nq, rfl⟩
    repeat' ((fail_if_success (with_reducible refine stop_append rfl ?_)); (fail_if_success (with_reducible refine stop_copy rfl ?_)); first | go_values | go_skip | go_guarded | go_step | go_upon | (simp only []; go_at_K))
    refine (readerFault _ g A k c b a _ (hr.drewN nq)).mono ?_
    rintro e w1 ⟨rfl, rfl⟩
    repeat' ((fail_if_success (with_reducible refine stop_append rfl ?_)); (fail_if_success (with_reducible refine stop_copy rfl ?_)); first | go_values | go_skip | go_guarded | go_step | go_upon | (simp only []; go_at_K))
    go_ret
    exact ⟨rfl, nq, rfl⟩
  · rw [if_neg h, flt_zero]
    have h' : ¬ 0 < b.length - a := by omega
    go_enter Try.func122, Try.ntmps122
    repeat' ((fail_if_success (with_reducible refine stop_append rfl ?_)); (fail_if_success (with_reducible refine stop_copy rfl ?_)); first | go_values | go_skip | go_guarded | go_step | go_upon | (simp only []; go_at_K))
    refine C.mono ?_
    rintro e w1 ⟨rfl, nq, rfl⟩
    repeat' ((fail_if_success (with_reducible refine stop_append rfl ?_)); (fail_if_success (with_reducible refine stop_copy rfl ?_)); first | go_values | go_skip | go_guarded | go_step | go_upon | (simp only []; go_at_K))
    go_ret
    exact ⟨rfl, nq, rfl⟩
end Go.Proofs.Ytdmmpcdilkcfjaa
