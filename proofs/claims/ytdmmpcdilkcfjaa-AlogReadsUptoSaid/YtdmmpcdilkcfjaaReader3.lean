/- What is read, on: (*wire.Reader).Bytes. -/
import Derived.Test.YtdmmpcdilkcfjaaReader2
import Derived.StillTailTactics
namespace Go.Proofs.Ytdmmpcdilkcfjaa
open Go.RowKit Agio

set_option maxRecDepth 100000 in
set_option maxHeartbeats 1000000 in
theorem readerBytes (w : World) (g : Nat) (A : Option Addr) (k c : Nat) (b : List UInt8) (a : Nat) (most : Int) (hm : I64 most) (hr : Rr w g A k c b a) (hb : b.length ≤ 140737488355328) :
    Calls Try.prog 121 #[.pointer (some ⟨g, 0, none⟩), .int .i64 most] w fun e w' => ∃ A' k' c', e = .returned (.tuple #[.slice A' k' c', flt (tk most (b.drop a)).2.2 a]) ∧
      OwnB 5 w' A' k' c' (tk most (b.drop a)).1 ∧ Rr w' g A k c b (a + (tk most (b.drop a)).2.1) ∧ Upd [g] (g :: ablk A') w w' := by
  obtain rfl := hr.own.len
  have C := readerUpTo w g A b.length c b a most hm hr hb
  have hok := upt_ok (l := b.drop a) (most := most)
  have hbad := upt_bad (l := b.drop a) (most := most)
  have huv := uv_ok (l := b.drop a)
  have hll : (b.drop a).length = b.length - a := by simp
  have hle := hr.le
  rw [hll] at huv
  have hc0 := hr.blk.cell 0
  have hc1 := hr.blk.cell 1
  have hf1 := hr.blk.frozen 1
  simp at hc0 hc1
  have HV := Lib.hid huv; clear huv
  have HL := Lib.hid hll; clear hll
  obtain ⟨n, sz, bad, hu⟩ : ∃ n sz bad, upt most (b.drop a) = (n, sz, bad) := ⟨_, _, _, rfl⟩
  rw [hu] at C hok hbad
  have HT := Lib.hid hu; clear hu
  by_cases h0 : bad = 0
  · subst h0
    obtain ⟨h1, h2, h3, h4⟩ := hok rfl
    have h5 := HV.out h1
    rw [← h2] at h5 h4
    have hs : sz ≤ 10 := h5.2.2.1
    have hs2 : sz ≤ b.length - a := h5.2.1
    have hn : (n : Int) ≤ most := h4
    have hI : (n : Int) ≤ 9223372036854775807 := by unfold I64 at hm; omega
    clear hok hbad h1 h2 h5 HV h4
    by_cases hlt : b.length - a - sz < n
    · have E : Hid (tk most (b.drop a) = ([], 0, 3)) := tk_short HT.out (by rw [HL.out]; exact hlt)
      clear HT
      rw [E.out, flt_pos (by decide)]
      go_enter Try.func121, Try.ntmps121
      repeat' ((fail_if_success (with_reducible refine stop_append rfl ?_)); (fail_if_success (with_reducible refine stop_copy rfl ?_)); first | go_values | go_skip | go_guarded | go_step | go_upon | (simp only []; go_at_K))
      refine C.mono ?_
      rintro e w1 ⟨rfl, nq, rfl⟩
      repeat' ((fail_if_success (with_reducible refine stop_append rfl ?_)); (fail_if_success (with_reducible refine stop_copy rfl ?_)); first | go_values | go_skip | go_guarded | go_step | go_upon | (simp only []; go_at_K))
      go_quiet (fail)
      repeat' ((fail_if_success (with_reducible refine stop_append rfl ?_)); (fail_if_success (with_reducible refine stop_copy rfl ?_)); first | go_values | go_skip | go_guarded | go_step | go_upon | (simp only []; go_at_K))
      refine (readerFault _ g A b.length c b a _ (hr.drewN _)).mono ?_
      rintro e w1 ⟨rfl, rfl⟩
      repeat' ((fail_if_success (with_reducible refine stop_append rfl ?_)); (fail_if_success (with_reducible refine stop_copy rfl ?_)); first | go_values | go_skip | go_guarded | go_step | go_upon | (simp only []; go_at_K))
      go_ret2
      exact ⟨none, 0, 0, rfl, OwnB.nil _ _, hr.drewN _, ((Upd.refl [g] w).drewN _).gives (by simp [ablk])⟩
    · have E : Hid (tk most (b.drop a) = (((b.drop a).drop sz).take n, sz + n, 0)) := tk_ok HT.out (by rw [HL.out]; exact hlt)
      clear HT
      rw [E.out, flt_zero]
      go_enter Try.func121, Try.ntmps121
      repeat' ((fail_if_success (with_reducible refine stop_append rfl ?_)); (fail_if_success (with_reducible refine stop_copy rfl ?_)); first | go_values | go_skip | go_guarded | go_step | go_upon | (simp only []; go_at_K))
      refine C.mono ?_
      rintro e w1 ⟨rfl, nq1, rfl⟩
      repeat' ((fail_if_success (with_reducible refine stop_append rfl ?_)); (fail_if_success (with_reducible refine stop_copy rfl ?_)); first | go_values | go_skip | go_guarded | go_step | go_upon | (simp only []; go_at_K))
      go_quiet (fail)
      repeat' ((fail_if_success (with_reducible refine stop_append rfl ?_)); (fail_if_success (with_reducible refine stop_copy rfl ?_)); first | go_values | go_skip | go_guarded | go_step | go_upon | (simp only []; go_at_K))
      have P := (hr.drewN (nq1 + nq)).put (a + (sz + n)) (by omega)
      rw [show ((a + (sz + n) : Nat) : Int) = (a : Int) + sz + n by omega] at P
      have hu0 : Upd [g] [g] w (w.drewN (nq1 + nq)) := (Upd.refl [g] w).drewN _
      generalize (w.drewN (nq1 + nq)).setCell ⟨g, 1, none⟩ (.int .i64 ((a : Int) + sz + n)) = W at P ⊢
      have hW0 := P.1.blk.cell 0
      have hW1 := P.1.blk.cell 1
      simp at hW0 hW1
      rw [show ((a : Int) + (sz + n)) = (a : Int) + sz + n by omega] at hW1
      have hD0 : ({ W with drawn := W.drawn + 1 } : World).cell? ⟨g, 0, none⟩ = some (.slice A b.length c) := hW0
      have hD1 : ({ W with drawn := W.drawn + 1 } : World).cell? ⟨g, 1, none⟩ = some (.int .i64 ((a : Int) + sz + n)) := hW1
      have hcap := hr.own.own.cap
      have hcm := hcap.2
      unfold maxLen at hcm
      have hx1 : (0 : Int) ≤ (a : Int) + sz := by omega
      have hx2 : (a : Int) + sz ≤ (a : Int) + sz + n := by omega
      have hx3 : (a : Int) + sz + n ≤ (c : Int) := by omega
      go_still_tail 10, (by kernel_rfl)
      change wpList _ _ _ _ _ W.drew
      repeat' ((fail_if_success (with_reducible refine stop_append rfl ?_)); (fail_if_success (with_reducible refine stop_copy rfl ?_)); first | go_values | go_skip | go_guarded | go_step | go_upon | (simp only []; go_at_K))
      rw [show a + sz + n - (a + sz) = n by omega]
      have hrd : RdB W.drew (if c = a + sz then A else Option.map (fun x => x.add (a + sz)) A) n (((b.drop a).drop sz).take n) := by
        have h1 := (P.1.own.rd.drew.cut (k := a + sz) (cap := c) (by omega) hcap.1).take (k := n) (by omega)
        simpa [RdB, b8s, List.map_drop, List.map_take, List.drop_drop] using h1
      refine (bytesClone W.drew _ n _ _ hrd (by simp; omega)).mono ?_
      rintro e w1 ⟨A1, k1, c1, rfl, ho, hu1⟩
      repeat' ((fail_if_success (with_reducible refine stop_append rfl ?_)); (fail_if_success (with_reducible refine stop_copy rfl ?_)); first | go_values | go_skip | go_guarded | go_step | go_upon | (simp only []; go_at_K))
      go_ret2
      refine ⟨A1, k1, c1, rfl, ho, P.1.upd (Upd.trans (Upd.refl [] W).drew hu1) (by simp), ?_⟩
      have hu2 : Upd [g] [g] w W.drew := (hu0.trans P.2).drew
      refine (hu2.trans (hu1.mono (a' := [g]) (b' := g :: ablk A1) (by simp) ?_))
      intro j hj
      rcases List.mem_cons.1 hj with rfl | hj
      · exact .inr (.inl (by simp))
      · exact .inl hj
  · have E : Hid (tk most (b.drop a) = ([], 0, bad)) := tk_bad HT.out h0
    have h0' : ((bad : Int) == 0) = false := by simp; omega
    have h0n : ((bad : Int) != 0) = true := by simp; omega
    clear hok HV hbad HT
    rw [E.out, flt_pos h0]
    go_enter Try.func121, Try.ntmps121
    repeat' ((fail_if_success (with_reducible refine stop_append rfl ?_)); (fail_if_success (with_reducible refine stop_copy rfl ?_)); first | go_values | go_skip | go_guarded | go_step | go_upon | (simp only []; go_at_K))
    refine C.mono ?_
    rintro e w1 ⟨rfl, nq, rfl⟩
    repeat' ((fail_if_success (with_reducible refine stop_append rfl ?_)); (fail_if_success (with_reducible refine stop_copy rfl ?_)); first | go_values | go_skip | go_guarded | go_step | go_upon | (simp only []; go_at_K))
    go_quiet (fail)
    repeat' ((fail_if_success (with_reducible refine stop_append rfl ?_)); (fail_if_success (with_reducible refine stop_copy rfl ?_)); first | go_values | go_skip | go_guarded | go_step | go_upon | (simp only []; go_at_K))
    refine (readerFault _ g A b.length c b a _ (hr.drewN _)).mono ?_
    rintro e w1 ⟨rfl, rfl⟩
    repeat' ((fail_if_success (with_reducible refine stop_append rfl ?_)); (fail_if_success (with_reducible refine stop_copy rfl ?_)); first | go_values | go_skip | go_guarded | go_step | go_upon | (simp only []; go_at_K))
    go_ret2
    exact ⟨none, 0, 0, rfl, OwnB.nil _ _, hr.drewN _, ((Upd.refl [g] w).drewN _).gives (by simp [ablk])⟩
end Go.Proofs.Ytdmmpcdilkcfjaa
