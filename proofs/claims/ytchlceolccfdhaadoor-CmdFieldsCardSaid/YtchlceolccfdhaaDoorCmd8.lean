/- agiolaw05.CmdBack, CmdOnce, walked. -/
import Derived.Test.YtchlceolccfdhaaDoorCmd7
namespace Go.Proofs.YtchlceolccfdhaaDoor
open Go.RowKit Agio

theorem flds_bd {k s a p q i : Int} (h : flds k s a p q i = true) : ∀ n ∈ [s, a, p, q, i], -1099511627776 ≤ n ∧ n ≤ 1099511627776 := by
  obtain ⟨h0, h1⟩ := flds_kind h
  have : k = 0 ∨ k = 1 ∨ k = 2 ∨ k = 3 ∨ k = 4 ∨ k = 5 ∨ k = 6 ∨ k = 7 ∨ k = 8 ∨ k = 9 ∨ k = 10 ∨ k = 11 := by omega
  rcases this with rfl | rfl | rfl | rfl | rfl | rfl | rfl | rfl | rfl | rfl | rfl | rfl <;> simp [flds, wi] at h <;> simp <;> omega
theorem tail_bd {c : Cm} (hm : c.may = true) : ∀ n ∈ c.tail, -1099511627776 ≤ n ∧ n ≤ 1099511627776 := by
  simp only [Cm.may, Bool.and_eq_true] at hm
  obtain ⟨⟨⟨_, h1⟩, h2⟩, h3⟩ := hm
  have h4 := flds_bd h3
  simp only [wi, Bool.and_eq_true, decide_eq_true_eq] at h1 h2
  intro n hn
  simp only [Cm.tail, List.mem_cons, List.not_mem_nil, or_false] at hn
  rcases hn with rfl | rfl | hn
  · omega
  · omega
  · exact h4 n (by simpa using hn)
theorem Cm.I_of {c : Cm} (hm : c.may = true) : c.I := by
  obtain ⟨⟨hk0, hk1⟩, hc0, hc1⟩ := Cm.may_k hm
  refine ⟨by unfold I64; omega, by unfold I64; omega, fun n hn => ?_⟩
  have := tail_bd hm n hn
  unfold I64; omega
theorem zigs_len6 {l : List Int} (h : ∀ n ∈ l, -1099511627776 ≤ n ∧ n ≤ 1099511627776) : (zigs l).length ≤ 6 * l.length := by
  induction l with
  | nil => simp [zigs]
  | cons n l ih =>
    have h0 := h n (by simp)
    have h1 : (leb (zig n)).length ≤ 6 := leb_len_pow 5 _ (by unfold zig; split <;> omega)
    have h2 := ih fun m hm => h m (by simp [hm])
    rw [zigs_cons]
    simp only [List.length_append, List.length_cons] at h2 ⊢
    omega
theorem bytes_len64 {c : Cm} (hm : c.may = true) : c.bytes.length ≤ 64 := by
  obtain ⟨⟨hk0, hk1⟩, hc0, hc1⟩ := Cm.may_k hm
  have h1 := leb_len (n := c.k.toNat) (U64.small (by omega))
  have h2 := leb_len (n := c.cl.toNat) (U64.small (by omega))
  have h3 := zigs_len6 (l := c.tail) (tail_bd hm)
  have h4 : c.tail.length = 7 := rfl
  unfold Cm.bytes
  simp only [List.length_append]
  omega
theorem Cm.val_eq (c : Cm) : c.val = .agg #[.int .i64 c.k, .int .i64 c.cl, .int .i64 c.sq, .int .i64 c.tm, .int .i64 c.s, .int .i64 c.a, .int .i64 c.p, .int .i64 c.q, .int .i64 c.i] := rfl
theorem err_ok {c : Cm} (h : c.may = true) : c.err = 0 := by simp [Cm.err, h]
theorem err_bad {c : Cm} (h : c.may = false) : c.err = 1 := by simp [Cm.err, h]

set_option maxRecDepth 100000 in
set_option maxHeartbeats 4000000 in
theorem cmdBack_any (w : World) (hG : GoodG w) (c : Cm) :
    Calls Tryd.prog 10 #[c.val] w fun ev w' => ev = .returned (.bool true) ∧ Upd [] [] w w' := by
  have eq := eqCmd
  have M := cmdMay c
  cases hm : c.may
  · have E := cmdEncode_bad c hm
    rw [err_bad hm] at M
    clear hm
    rw [Cm.val_eq] at E M ⊢
    unfold cmdErr at E
    go_enter Tryd.func10, Tryd.ntmps10
    repeat' ((fail_if_success (with_reducible refine stop_append rfl ?_)); (fail_if_success (with_reducible refine stop_copy rfl ?_)); first | go_values | go_skip | go_guarded | go_step | go_upon | (simp only []; go_at_K))
    refine (awake05 _ (hG.alloc _)).mono ?_
    rintro ev w1 ⟨rfl, hu1⟩
    have hB1 := (Blk.new w 68 #[.int .i64 c.k, .int .i64 c.cl, .int .i64 c.sq, .int .i64 c.tm, .int .i64 c.s, .int .i64 c.a, .int .i64 c.p, .int .i64 c.q, .int .i64 c.i]).upd hu1 (by simp)
    have U1 : Upd [] [] w w1 := ((Upd.refl [] w).alloc _).trans hu1
    have b0 := hB1.cell 0
    have b1 := hB1.cell 1
    have b2 := hB1.cell 2
    have b3 := hB1.cell 3
    have b4 := hB1.cell 4
    have b5 := hB1.cell 5
    have b6 := hB1.cell 6
    have b7 := hB1.cell 7
    have b8 := hB1.cell 8
    simp at b0 b1 b2 b3 b4 b5 b6 b7 b8
    clear hu1
    repeat' ((fail_if_success (with_reducible refine stop_append rfl ?_)); (fail_if_success (with_reducible refine stop_copy rfl ?_)); first | go_values | go_skip | go_guarded | go_step | go_upon | (simp only []; go_at_K))
    refine (E _).mono ?_
    rintro ev w2 ⟨rfl, hu2⟩
    have hB2 := hB1.upd hu2 (by simp)
    have U2 := U1.trans hu2
    clear b0 b1 b2 b3 b4 b5 b6 b7 b8 hB1 U1 hu2 E
    have b0 := hB2.cell 0
    have b1 := hB2.cell 1
    have b2 := hB2.cell 2
    have b3 := hB2.cell 3
    have b4 := hB2.cell 4
    have b5 := hB2.cell 5
    have b6 := hB2.cell 6
    have b7 := hB2.cell 7
    have b8 := hB2.cell 8
    simp at b0 b1 b2 b3 b4 b5 b6 b7 b8
    repeat' ((fail_if_success (with_reducible refine stop_append rfl ?_)); (fail_if_success (with_reducible refine stop_copy rfl ?_)); first | go_values | go_skip | go_guarded | go_step | go_upon | (simp only []; go_at_K))
    refine (M _).mono ?_
    rintro ev w3 ⟨rfl, hu3⟩
    repeat' ((fail_if_success (with_reducible refine stop_append rfl ?_)); (fail_if_success (with_reducible refine stop_copy rfl ?_)); first | go_values | go_skip | go_guarded | go_step | go_upon | (simp only []; go_at_K))
    go_ret
    exact ⟨rfl, U2.trans hu3⟩
  · have E := cmdEncode_ok c hm (Cm.I_of hm)
    have HD := Lib.hid (dec_back hm (Cm.I_of hm))
    have hl := bytes_len64 hm
    rw [err_ok hm] at M
    clear hm
    rw [Cm.val_eq] at E M ⊢
    have HV := Lib.hid (Cm.val_eq c)
    go_enter Tryd.func10, Tryd.ntmps10
    repeat' ((fail_if_success (with_reducible refine stop_append rfl ?_)); (fail_if_success (with_reducible refine stop_copy rfl ?_)); first | go_values | go_skip | go_guarded | go_step | go_upon | (simp only []; go_at_K))
    refine (awake05 _ (hG.alloc _)).mono ?_
    rintro ev w1 ⟨rfl, hu1⟩
    have hB1 := (Blk.new w 68 #[.int .i64 c.k, .int .i64 c.cl, .int .i64 c.sq, .int .i64 c.tm, .int .i64 c.s, .int .i64 c.a, .int .i64 c.p, .int .i64 c.q, .int .i64 c.i]).upd hu1 (by simp)
    have U1 : Upd [] [] w w1 := ((Upd.refl [] w).alloc _).trans hu1
    have b0 := hB1.cell 0
    have b1 := hB1.cell 1
    have b2 := hB1.cell 2
    have b3 := hB1.cell 3
    have b4 := hB1.cell 4
    have b5 := hB1.cell 5
    have b6 := hB1.cell 6
    have b7 := hB1.cell 7
    have b8 := hB1.cell 8
    simp at b0 b1 b2 b3 b4 b5 b6 b7 b8
    clear hu1
    repeat' ((fail_if_success (with_reducible refine stop_append rfl ?_)); (fail_if_success (with_reducible refine stop_copy rfl ?_)); first | go_values | go_skip | go_guarded | go_step | go_upon | (simp only []; go_at_K))
    refine (E _).mono ?_
    rintro ev w2 ⟨A2, k2, c2, rfl, ho2, hu2⟩
    have hu2 : Upd [] [] w1 w2 := hu2.gives (by simp)
    have hB2 := hB1.upd hu2 (by simp)
    have U2 := U1.trans hu2
    clear b0 b1 b2 b3 b4 b5 b6 b7 b8 hB1 U1 hu2 E
    have b0 := hB2.cell 0
    have b1 := hB2.cell 1
    have b2 := hB2.cell 2
    have b3 := hB2.cell 3
    have b4 := hB2.cell 4
    have b5 := hB2.cell 5
    have b6 := hB2.cell 6
    have b7 := hB2.cell 7
    have b8 := hB2.cell 8
    simp at b0 b1 b2 b3 b4 b5 b6 b7 b8
    repeat' ((fail_if_success (with_reducible refine stop_append rfl ?_)); (fail_if_success (with_reducible refine stop_copy rfl ?_)); first | go_values | go_skip | go_guarded | go_step | go_upon | (simp only []; go_at_K))
    refine (M _).mono ?_
    rintro ev w3 ⟨rfl, hu3⟩
    have hB3 := hB2.upd hu3 (by simp)
    have ho3 := ho2.upd hu3 (by simp)
    have U3 := U2.trans hu3
    clear b0 b1 b2 b3 b4 b5 b6 b7 b8 hB2 U2 hu3 M ho2
    repeat' ((fail_if_success (with_reducible refine stop_append rfl ?_)); (fail_if_success (with_reducible refine stop_copy rfl ?_)); first | go_values | go_skip | go_guarded | go_step | go_upon | (simp only []; go_at_K))
    refine (cmdDecode w3 A2 k2 c2 _ ho3.rd (by omega)).mono ?_
    rintro ev w4 ⟨hT, hu4⟩
    rcases hT with ⟨er, h, -⟩ | ⟨c', h, rfl⟩
    · rw [HD.out] at h; cases h
    obtain rfl : c = c' := by rw [HD.out] at h; exact Sum.inr.inj h
    rw [HV.out]
    have hk2 := ho3.len
    have hkl : (k2 : Int) ≤ 64 := by omega
    clear hk2 hl h
    have hB4 := hB3.upd hu4 (by simp)
    have U4 := U3.trans hu4
    have b0 := hB4.cell 0
    have b1 := hB4.cell 1
    have b2 := hB4.cell 2
    have b3 := hB4.cell 3
    have b4 := hB4.cell 4
    have b5 := hB4.cell 5
    have b6 := hB4.cell 6
    have b7 := hB4.cell 7
    have b8 := hB4.cell 8
    simp at b0 b1 b2 b3 b4 b5 b6 b7 b8
    have hlt := hB4.lt
    repeat' ((fail_if_success (with_reducible refine stop_append rfl ?_)); (fail_if_success (with_reducible refine stop_copy rfl ?_)); first | go_values | go_skip | go_guarded | go_step | go_upon | (simp only []; go_at_K))
    go_ret
    exact ⟨by simp, U4.alloc _⟩
end Go.Proofs.YtchlceolccfdhaaDoor
