/- agiolaw05.CmdFields, walked: all kinds. -/
import Derived.Test.YtchlceolccfdhaaDoorFieldsA
import Derived.Test.YtchlceolccfdhaaDoorFieldsB
import Derived.Test.YtchlceolccfdhaaDoorFieldsC
import Derived.Test.YtchlceolccfdhaaDoorFieldsD
namespace Go.Proofs.YtchlceolccfdhaaDoor
open Go.RowKit Agio

set_option maxRecDepth 100000 in
set_option maxHeartbeats 4000000 in
theorem cf_bad (w : World) (hG : GoodG w) (c : Cm) (n : Int) (hm : c.may = false) :
    Calls Tryd.prog 13 #[c.val, .int .i64 n] w fun ev w' => ev = .returned (.bool true) ∧ Upd [] [] w w' := by
  have M := cmdMay c
  rw [err_bad hm] at M
  clear hm
  rw [Cm.val_eq] at M ⊢
  go_enter Tryd.func13, Tryd.ntmps13
  repeat' ((fail_if_success (with_reducible refine stop_append rfl ?_)); (fail_if_success (with_reducible refine stop_copy rfl ?_)); first | go_values | go_skip | go_guarded | go_step | go_upon | (simp only []; go_at_K))
  refine (awake05 _ (hG.alloc _)).mono ?_
  rintro ev w1 ⟨rfl, hu1⟩
  have hB1 := (Blk.new w 68 #[.int .i64 c.k, .int .i64 c.cl, .int .i64 c.sq, .int .i64 c.tm, .int .i64 c.s, .int .i64 c.a, .int .i64 c.p, .int .i64 c.q, .int .i64 c.i]).upd hu1 (by simp)
  have U1 : Upd [] [] w w1 := ((Upd.refl [] w).alloc _).trans hu1
  have b0 := hB1.cell 0
  have b1 := hB1.cell 1
  have b2 := hB1.cell 2
  have b3 := hB1.cell 3
  have b4 := hB1.cell 4
  have b5 := hB1.cell 5
  have b6 := hB1.cell 6
  have b7 := hB1.cell 7
  have b8 := hB1.cell 8
  simp at b0 b1 b2 b3 b4 b5 b6 b7 b8
  clear hu1
  repeat' ((fail_if_success (with_reducible refine stop_append rfl ?_)); (fail_if_success (with_reducible refine stop_copy rfl ?_)); first | go_values | go_skip | go_guarded | go_step | go_upon | (simp only []; go_at_K))
  refine (M _).mono ?_
  rintro ev w2 ⟨rfl, hu2⟩
  repeat' ((fail_if_success (with_reducible refine stop_append rfl ?_)); (fail_if_success (with_reducible refine stop_copy rfl ?_)); first | go_values | go_skip | go_guarded | go_step | go_upon | (simp only []; go_at_K))
  go_ret
  exact ⟨rfl, U1.trans hu2⟩
theorem cmdFields_any (w : World) (hG : GoodG w) (c : Cm) (n : Int) :
    Calls Tryd.prog 13 #[c.val, .int .i64 n] w fun ev w' => ev = .returned (.bool true) ∧ Upd [] [] w w' := by
  cases hm : c.may
  · exact cf_bad w hG c n hm
  · obtain ⟨⟨h0, h1⟩, -⟩ := Cm.may_k hm
    obtain ⟨k, cl, sq, tm, s, a, p, q, i⟩ := c
    simp only at h0 h1
    have hn : n < 0 ∨ n = 0 ∨ (1 ≤ n ∧ n ≤ 1073741824) ∨ (1073741824 < n ∧ n ≤ 1099511627776) ∨ 1099511627776 < n := by omega
    have : k = 0 ∨ k = 1 ∨ k = 2 ∨ k = 3 ∨ k = 4 ∨ k = 5 ∨ k = 6 ∨ k = 7 ∨ k = 8 ∨ k = 9 ∨ k = 10 ∨ k = 11 := by omega
    rcases this with rfl | rfl | rfl | rfl | rfl | rfl | rfl | rfl | rfl | rfl | rfl | rfl
    · rcases hn with h | rfl | h | h | h
      · exact cf_0_neg w hG cl sq tm s a p q i n h hm
      · exact cf_0_zero w hG cl sq tm s a p q i hm
      · exact cf_0_low w hG cl sq tm s a p q i n h hm
      · exact cf_0_mid w hG cl sq tm s a p q i n h hm
      · exact cf_0_high w hG cl sq tm s a p q i n h hm
    · rcases hn with h | rfl | h | h | h
      · exact cf_1_neg w hG cl sq tm s a p q i n h hm
      · exact cf_1_zero w hG cl sq tm s a p q i hm
      · exact cf_1_low w hG cl sq tm s a p q i n h hm
      · exact cf_1_mid w hG cl sq tm s a p q i n h hm
      · exact cf_1_high w hG cl sq tm s a p q i n h hm
    · rcases hn with h | rfl | h | h | h
      · exact cf_2_neg w hG cl sq tm s a p q i n h hm
      · exact cf_2_zero w hG cl sq tm s a p q i hm
      · exact cf_2_low w hG cl sq tm s a p q i n h hm
      · exact cf_2_mid w hG cl sq tm s a p q i n h hm
      · exact cf_2_high w hG cl sq tm s a p q i n h hm
    · rcases hn with h | rfl | h | h | h
      · exact cf_3_neg w hG cl sq tm s a p q i n h hm
      · exact cf_3_zero w hG cl sq tm s a p q i hm
      · exact cf_3_low w hG cl sq tm s a p q i n h hm
      · exact cf_3_mid w hG cl sq tm s a p q i n h hm
      · exact cf_3_high w hG cl sq tm s a p q i n h hm
    · rcases hn with h | rfl | h | h | h
      · exact cf_4_neg w hG cl sq tm s a p q i n h hm
      · exact cf_4_zero w hG cl sq tm s a p q i hm
      · exact cf_4_low w hG cl sq tm s a p q i n h hm
      · exact cf_4_mid w hG cl sq tm s a p q i n h hm
      · exact cf_4_high w hG cl sq tm s a p q i n h hm
    · rcases hn with h | rfl | h | h | h
      · exact cf_5_neg w hG cl sq tm s a p q i n h hm
      · exact cf_5_zero w hG cl sq tm s a p q i hm
      · exact cf_5_low w hG cl sq tm s a p q i n h hm
      · exact cf_5_mid w hG cl sq tm s a p q i n h hm
      · exact cf_5_high w hG cl sq tm s a p q i n h hm
    · rcases hn with h | rfl | h | h | h
      · exact cf_6_neg w hG cl sq tm s a p q i n h hm
      · exact cf_6_zero w hG cl sq tm s a p q i hm
      · exact cf_6_low w hG cl sq tm s a p q i n h hm
      · exact cf_6_mid w hG cl sq tm s a p q i n h hm
      · exact cf_6_high w hG cl sq tm s a p q i n h hm
    · rcases hn with h | rfl | h | h | h
      · exact cf_7_neg w hG cl sq tm s a p q i n h hm
      · exact cf_7_zero w hG cl sq tm s a p q i hm
      · exact cf_7_low w hG cl sq tm s a p q i n h hm
      · exact cf_7_mid w hG cl sq tm s a p q i n h hm
      · exact cf_7_high w hG cl sq tm s a p q i n h hm
    · rcases hn with h | rfl | h | h | h
      · exact cf_8_neg w hG cl sq tm s a p q i n h hm
      · exact cf_8_zero w hG cl sq tm s a p q i hm
      · exact cf_8_low w hG cl sq tm s a p q i n h hm
      · exact cf_8_mid w hG cl sq tm s a p q i n h hm
      · exact cf_8_high w hG cl sq tm s a p q i n h hm
    · rcases hn with h | rfl | h | h | h
      · exact cf_9_neg w hG cl sq tm s a p q i n h hm
      · exact cf_9_zero w hG cl sq tm s a p q i hm
      · exact cf_9_low w hG cl sq tm s a p q i n h hm
      · exact cf_9_mid w hG cl sq tm s a p q i n h hm
      · exact cf_9_high w hG cl sq tm s a p q i n h hm
    · rcases hn with h | rfl | h | h | h
      · exact cf_10_neg w hG cl sq tm s a p q i n h hm
      · exact cf_10_zero w hG cl sq tm s a p q i hm
      · exact cf_10_low w hG cl sq tm s a p q i n h hm
      · exact cf_10_mid w hG cl sq tm s a p q i n h hm
      · exact cf_10_high w hG cl sq tm s a p q i n h hm
    · rcases hn with h | rfl | h | h | h
      · exact cf_11_neg w hG cl sq tm s a p q i n h hm
      · exact cf_11_zero w hG cl sq tm s a p q i hm
      · exact cf_11_low w hG cl sq tm s a p q i n h hm
      · exact cf_11_mid w hG cl sq tm s a p q i n h hm
      · exact cf_11_high w hG cl sq tm s a p q i n h hm
end Go.Proofs.YtchlceolccfdhaaDoor
