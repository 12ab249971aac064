/- agioref02.Get: a number's bytes are counted first. -/
import Derived.Test.YtdmmpcdilkcfjaaWriter
import Derived.Test.YtdmmpcdilkcfjaaPlainGet
namespace Go.Proofs.Ytdmmpcdilkcfjaa
open Go.RowKit Agio

theorem get_step {h v : Nat} (hU : U64 (h * 128 + v % 128)) : Value.int .u64 (IntKind.u64.wrap (IntKind.u64.wrap ((h : Int) * 128) + (v : Int) % 128)) = .int .u64 ((h * 128 + v % 128 : Nat) : Int) := by
  unfold U64 at hU; simp only [IntKind.wrap_u64, Value.int.injEq, true_and]; omega

set_option maxRecDepth 100000 in
set_option maxHeartbeats 8000000 in
theorem refGet (w : World) (A : Option Addr) (n c : Nat) (b : List UInt8) (hr : RdB w A n b) (hn : b.length ≤ 140737488355328) (a : Nat) (ha : a ≤ b.length) :
    Calls Try.prog 104 #[.slice A n c, .int .i64 (a : Int)] w fun e w' => e = .returned (.tuple #[.int .u64 ((uv (b.drop a)).1 : Int), .int .i64 ((uv (b.drop a)).2.1 : Int), .int .i64 ((uv (b.drop a)).2.2 : Int)]) ∧ w = w' := by
  obtain rfl := hr.len
  obtain ⟨l, hl⟩ : ∃ l, l = b.drop a := ⟨_, rfl⟩
  have hll : l.length = b.length - a := by rw [hl]; simp
  have hget : ∀ k (h : k < l.length) (h2 : a + k < b.length), l[k] = b[a + k] := by intro k h h2; subst hl; simp
  rw [← hl]
  clear hl
  have HLL := Lib.hid hll; clear hll
  have HG := Lib.hid hget; clear hget
  go_enter Try.func104, Try.ntmps104
  repeat' ((fail_if_success (with_reducible refine stop_append rfl ?_)); (fail_if_success (with_reducible refine stop_copy rfl ?_)); first | go_values | go_skip | go_guarded | go_step | go_upon | (simp only []; go_at_K))
  go_loop [7] (fun v7 => ∃ k : Nat, v7 = .int .i64 (k : Int) ∧ k ≤ 10 ∧ Hi l k) (fun v7 => 10 - (intOf v7).toNat)
  case atStart => exact ⟨0, rfl, by omega, Hi.zero _⟩
  case round =>
    obtain ⟨k, rfl, hk, hhi⟩ := hrel
    have hkl : k ≤ b.length - a := by have := hhi.1; have := HLL.out; omega
    by_cases h1 : a + k < b.length
    · have h1' : k < l.length := by have := HLL.out; omega
      by_cases h2 : k < 10
      · obtain ⟨ad, u, rfl, hx, hcell⟩ := Rd.at_ hr (k := a + k) h1
        rw [b8s_get b (a + k) h1] at hx
        obtain rfl := Option.some.inj hx
        have hcn : b[a + k].toNat < 256 := b[a + k].toNat_lt
        have HE := Lib.hid (HG.out k h1' h1)
        clear hx
        generalize hce : b[a + k].toNat = cn at *
        have HC : Hid (l[k].toNat = cn) := by rw [HE.out]; exact hce
        clear hce HE
        by_cases h3 : 128 ≤ cn
        · as_aux_lemma =>
          repeat' ((fail_if_success (with_reducible refine stop_append rfl ?_)); (fail_if_success (with_reducible refine stop_copy rfl ?_)); first | go_values | go_skip | go_guarded | go_step | go_upon | (simp only []; go_at_K))
          refine ⟨⟨k + 1, by simp, by omega, hhi.succ h1' (by rw [HC.out]; exact h3)⟩, by simp [intOf]; omega⟩
        · have h10' : ((k : Int) == 10) = false := by simp; omega
          have hd2 : decide ((a : Int) + (k : Int) < (b.length : Int)) = true := decide_eq_true (by omega)
          have hd4 : decide ((b.length : Int) ≤ (a : Int) + (k : Int)) = false := decide_eq_false (by omega)
          have hv : Hid (¬ (k = 9 ∧ 1 < cn) → ¬ (cn = 0 ∧ 0 < k) → uv l = (low7 (l.take (k + 1)), k + 1, 0)) := fun h4 h5 => get_some hhi (by omega) h1' (by rw [HC.out]; omega) (by rw [HC.out]; exact h4) (by rw [HC.out]; exact h5)
          have hz : Hid (cn = 0 → 0 < k → uv l = (0, 0, 2)) := fun h4 h5 => get_zero hhi (by omega) h1' h5 (by rw [HC.out]; exact h4)
          have hh : Hid (∀ i, (i ≤ k) → ∃ v : Nat, v < 256 ∧ w.cell? (ad.add (a + i)) = some (.int .u8 (v : Int)) ∧ high7 l k i = high7 l k (i + 1) * 128 + v % 128) := by
            intro i hi
            have hib : a + i < b.length := by omega
            have hil : i < l.length := by omega
            obtain ⟨ad', u, e', hx, hcell'⟩ := Rd.at_ hr (k := a + i) hib
            injection e' with e'; subst e'
            rw [b8s_get b (a + i) hib] at hx
            obtain rfl := Option.some.inj hx
            exact ⟨b[a + i].toNat, b[a + i].toNat_lt, hcell', by rw [high7_step hil hi, HG.out i hil hib]⟩
          by_cases h9 : k = 9
          · have hcell9 : w.cell? ⟨ad.block, ad.off + (a + 8 + 1), none⟩ = some (.int .u8 (cn : Int)) := by subst h9; exact hcell
            have h9' : ((k : Int) == 9) = true := by simp; omega
            have hk0 : 0 < k := by omega
            have h19 : a + 9 < b.length := by omega
            by_cases h10 : 1 < cn
            · have E : Hid (uv l = (0, 0, 2)) := by subst h9; exact get_nine hhi h1' (by rw [HC.out]; exact h10)
              clear h9
              as_aux_lemma =>
              repeat' ((fail_if_success (with_reducible refine stop_append rfl ?_)); (fail_if_success (with_reducible refine stop_copy rfl ?_)); first | go_values | go_skip | go_guarded | go_step | go_upon | (simp only []; go_at_K))
              go_ret3
              exact ⟨by rw [E.out]; rfl, rfl⟩
            · by_cases h0 : cn = 0
              · have E : Hid (uv l = (0, 0, 2)) := hz.out h0 hk0
                have h0' : ((cn : Int) == 0) = true := by simp; omega
                clear h9 h0
                as_aux_lemma =>
                repeat' ((fail_if_success (with_reducible refine stop_append rfl ?_)); (fail_if_success (with_reducible refine stop_copy rfl ?_)); first | go_values | go_skip | go_guarded | go_step | go_upon | (simp only []; go_at_K))
                go_ret3
                exact ⟨by rw [E.out]; rfl, rfl⟩
              · have E : Hid (uv l = (low7 (l.take (k + 1)), k + 1, 0)) := hv.out (by omega) (by omega)
                have h0' : ((cn : Int) == 0) = false := by simp; omega
                clear h9
                have hUL : Hid (U64 (low7 (l.take (k + 1)))) := by have := (uv_ok (l := l) (by rw [E.out])).2.2.2; rw [E.out] at this; exact this
                clear hv hz
                as_aux_lemma =>
                repeat' ((fail_if_success (with_reducible refine stop_append rfl ?_)); (fail_if_success (with_reducible refine stop_copy rfl ?_)); first | go_values | go_skip | go_guarded | go_step | go_upon | (simp only []; go_at_K))
                go_loop [8, 9] (fun v8 v9 => ∃ x : Int, -1 ≤ x ∧ x ≤ (k : Int) ∧ v9 = .int .i64 x ∧ v8 = .int .u64 ((high7 l k (x + 1).toNat : Nat) : Int)) (fun _ v9 => (intOf v9 + 1).toNat)
                case atStart => exact ⟨k, by omega, by omega, rfl, by rw [show ((k : Int) + 1).toNat = k + 1 by omega, high7_top]; rfl⟩
                case round =>
                  obtain ⟨x, hx0, hx1, rfl, rfl⟩ := hrel
                  by_cases hx : 0 ≤ x
                  · obtain ⟨i, rfl⟩ := Int.eq_ofNat_of_zero_le hx
                    obtain ⟨v, hv256, hci, hst⟩ := hh.out i (by omega)
                    have hU : Hid (U64 (high7 l k i)) := hUL.out.le (high7_le l k i)
                    rw [show ((i : Int) + 1).toNat = i + 1 by omega]
                    have hib : (a : Int) + (i : Int) < (b.length : Int) := by omega
                    have HST := Lib.hid hst; clear hst
                    clear hcell h1 hd2 hd4
                    repeat' ((fail_if_success (with_reducible refine stop_append rfl ?_)); (fail_if_success (with_reducible refine stop_copy rfl ?_)); first | go_values | go_skip | go_guarded | go_step | go_upon | (simp only []; go_at_K))
                    refine ⟨⟨(i : Int) - 1, by omega, by omega, rfl, ?_⟩, by simp [intOf] <;> omega⟩
                    rw [show ((i : Int) - 1 + 1).toNat = i by omega, HST.out]
                    exact get_step (by rw [← HST.out]; exact hU.out)
                  · obtain rfl : x = -1 := by omega
                    repeat' ((fail_if_success (with_reducible refine stop_append rfl ?_)); (fail_if_success (with_reducible refine stop_copy rfl ?_)); first | go_values | go_skip | go_guarded | go_step | go_upon | (simp only []; go_at_K))
                    go_ret3
                    exact ⟨by rw [E.out]; rfl, rfl⟩
          · have h9' : ((k : Int) == 9) = false := by simp; omega
            by_cases hk0 : 0 < k
            · by_cases h0 : cn = 0
              · have E : Hid (uv l = (0, 0, 2)) := hz.out h0 hk0
                have h0' : ((cn : Int) == 0) = true := by simp; omega
                clear h9 h0
                as_aux_lemma =>
                repeat' ((fail_if_success (with_reducible refine stop_append rfl ?_)); (fail_if_success (with_reducible refine stop_copy rfl ?_)); first | go_values | go_skip | go_guarded | go_step | go_upon | (simp only []; go_at_K))
                go_ret3
                exact ⟨by rw [E.out]; rfl, rfl⟩
              · have E : Hid (uv l = (low7 (l.take (k + 1)), k + 1, 0)) := hv.out (by omega) (by omega)
                have h0' : ((cn : Int) == 0) = false := by simp; omega
                clear h9
                have hUL : Hid (U64 (low7 (l.take (k + 1)))) := by have := (uv_ok (l := l) (by rw [E.out])).2.2.2; rw [E.out] at this; exact this
                clear hv hz
                as_aux_lemma =>
                repeat' ((fail_if_success (with_reducible refine stop_append rfl ?_)); (fail_if_success (with_reducible refine stop_copy rfl ?_)); first | go_values | go_skip | go_guarded | go_step | go_upon | (simp only []; go_at_K))
                go_loop [8, 9] (fun v8 v9 => ∃ x : Int, -1 ≤ x ∧ x ≤ (k : Int) ∧ v9 = .int .i64 x ∧ v8 = .int .u64 ((high7 l k (x + 1).toNat : Nat) : Int)) (fun _ v9 => (intOf v9 + 1).toNat)
                case atStart => exact ⟨k, by omega, by omega, rfl, by rw [show ((k : Int) + 1).toNat = k + 1 by omega, high7_top]; rfl⟩
                case round =>
                  obtain ⟨x, hx0, hx1, rfl, rfl⟩ := hrel
                  by_cases hx : 0 ≤ x
                  · obtain ⟨i, rfl⟩ := Int.eq_ofNat_of_zero_le hx
                    obtain ⟨v, hv256, hci, hst⟩ := hh.out i (by omega)
                    have hU : Hid (U64 (high7 l k i)) := hUL.out.le (high7_le l k i)
                    rw [show ((i : Int) + 1).toNat = i + 1 by omega]
                    have hib : (a : Int) + (i : Int) < (b.length : Int) := by omega
                    have HST := Lib.hid hst; clear hst
                    clear hcell h1 hd2 hd4
                    repeat' ((fail_if_success (with_reducible refine stop_append rfl ?_)); (fail_if_success (with_reducible refine stop_copy rfl ?_)); first | go_values | go_skip | go_guarded | go_step | go_upon | (simp only []; go_at_K))
                    refine ⟨⟨(i : Int) - 1, by omega, by omega, rfl, ?_⟩, by simp [intOf] <;> omega⟩
                    rw [show ((i : Int) - 1 + 1).toNat = i by omega, HST.out]
                    exact get_step (by rw [← HST.out]; exact hU.out)
                  · obtain rfl : x = -1 := by omega
                    repeat' ((fail_if_success (with_reducible refine stop_append rfl ?_)); (fail_if_success (with_reducible refine stop_copy rfl ?_)); first | go_values | go_skip | go_guarded | go_step | go_upon | (simp only []; go_at_K))
                    go_ret3
                    exact ⟨by rw [E.out]; rfl, rfl⟩
            · have E : Hid (uv l = (low7 (l.take (k + 1)), k + 1, 0)) := hv.out (by omega) (by omega)
              clear h9
              have hUL : Hid (U64 (low7 (l.take (k + 1)))) := by have := (uv_ok (l := l) (by rw [E.out])).2.2.2; rw [E.out] at this; exact this
              clear hv hz
              as_aux_lemma =>
              repeat' ((fail_if_success (with_reducible refine stop_append rfl ?_)); (fail_if_success (with_reducible refine stop_copy rfl ?_)); first | go_values | go_skip | go_guarded | go_step | go_upon | (simp only []; go_at_K))
              go_loop [8, 9] (fun v8 v9 => ∃ x : Int, -1 ≤ x ∧ x ≤ (k : Int) ∧ v9 = .int .i64 x ∧ v8 = .int .u64 ((high7 l k (x + 1).toNat : Nat) : Int)) (fun _ v9 => (intOf v9 + 1).toNat)
              case atStart => exact ⟨k, by omega, by omega, rfl, by rw [show ((k : Int) + 1).toNat = k + 1 by omega, high7_top]; rfl⟩
              case round =>
                obtain ⟨x, hx0, hx1, rfl, rfl⟩ := hrel
                by_cases hx : 0 ≤ x
                · obtain ⟨i, rfl⟩ := Int.eq_ofNat_of_zero_le hx
                  obtain ⟨v, hv256, hci, hst⟩ := hh.out i (by omega)
                  have hU : Hid (U64 (high7 l k i)) := hUL.out.le (high7_le l k i)
                  rw [show ((i : Int) + 1).toNat = i + 1 by omega]
                  have hib : (a : Int) + (i : Int) < (b.length : Int) := by omega
                  have HST := Lib.hid hst; clear hst
                  clear hcell h1 hd2 hd4
                  repeat' ((fail_if_success (with_reducible refine stop_append rfl ?_)); (fail_if_success (with_reducible refine stop_copy rfl ?_)); first | go_values | go_skip | go_guarded | go_step | go_upon | (simp only []; go_at_K))
                  refine ⟨⟨(i : Int) - 1, by omega, by omega, rfl, ?_⟩, by simp [intOf] <;> omega⟩
                  rw [show ((i : Int) - 1 + 1).toNat = i by omega, HST.out]
                  exact get_step (by rw [← HST.out]; exact hU.out)
                · obtain rfl : x = -1 := by omega
                  repeat' ((fail_if_success (with_reducible refine stop_append rfl ?_)); (fail_if_success (with_reducible refine stop_copy rfl ?_)); first | go_values | go_skip | go_guarded | go_step | go_upon | (simp only []; go_at_K))
                  go_ret3
                  exact ⟨by rw [E.out]; rfl, rfl⟩
      · have E : Hid (uv l = (0, 0, 2)) := by obtain rfl : k = 10 := by omega
                                              exact get_ten hhi
        have h10' : ((k : Int) == 10) = true := by simp; omega
        as_aux_lemma =>
        repeat' ((fail_if_success (with_reducible refine stop_append rfl ?_)); (fail_if_success (with_reducible refine stop_copy rfl ?_)); first | go_values | go_skip | go_guarded | go_step | go_upon | (simp only []; go_at_K))
        go_ret3
        exact ⟨by rw [E.out]; rfl, rfl⟩
    · have hd2 : decide ((a : Int) + (k : Int) < (b.length : Int)) = false := decide_eq_false (by omega)
      have hd4 : decide ((b.length : Int) ≤ (a : Int) + (k : Int)) = true := decide_eq_true (by omega)
      by_cases h2 : k = 10
      · have E : Hid (uv l = (0, 0, 2)) := by subst h2; exact get_ten hhi
        have h10' : ((k : Int) == 10) = true := by simp; omega
        clear h2
        as_aux_lemma =>
        repeat' ((fail_if_success (with_reducible refine stop_append rfl ?_)); (fail_if_success (with_reducible refine stop_copy rfl ?_)); first | go_values | go_skip | go_guarded | go_step | go_upon | (simp only []; go_at_K))
        go_ret3
        exact ⟨by rw [E.out]; rfl, rfl⟩
      · have E : Hid (uv l = (0, 0, 3)) := get_short hhi (by omega) (by have := HLL.out; omega)
        have h10 : ((k : Int) == 10) = false := by simp; omega
        by_cases h9 : k = 9
        · have h9' : ((k : Int) == 9) = true := by simp; omega
          have h19 : ¬ (a + 9 < b.length) := by omega
          clear h9 h2
          as_aux_lemma =>
          repeat' ((fail_if_success (with_reducible refine stop_append rfl ?_)); (fail_if_success (with_reducible refine stop_copy rfl ?_)); first | go_values | go_skip | go_guarded | go_step | go_upon | (simp only []; go_at_K))
          go_ret3
          exact ⟨by rw [E.out]; rfl, rfl⟩
        · have h9' : ((k : Int) == 9) = false := by simp; omega
          as_aux_lemma =>
          repeat' ((fail_if_success (with_reducible refine stop_append rfl ?_)); (fail_if_success (with_reducible refine stop_copy rfl ?_)); first | go_values | go_skip | go_guarded | go_step | go_upon | (simp only []; go_at_K))
          go_ret3
          exact ⟨by rw [E.out]; rfl, rfl⟩
end Go.Proofs.Ytdmmpcdilkcfjaa
