/- agiolaw05.CmdFields, walked: kinds 0, 1, 2. -/
import Derived.Test.YtchlceolccfdhaaDoorKinds
import Derived.Test.YtchlceolccfdhaaDoorCmd8
namespace Go.Proofs.YtchlceolccfdhaaDoor
open Go.RowKit Agio

set_option maxRecDepth 100000 in
set_option maxHeartbeats 4000000 in
theorem cf_0_neg (w : World) (hG : GoodG w) (cl sq tm s a p q i n : Int) (hn : n < 0) (hm : (Cm.mk 0 cl sq tm s a p q i).may = true) :
    Calls Tryd.prog 13 #[.agg #[.int .i64 0, .int .i64 cl, .int .i64 sq, .int .i64 tm, .int .i64 s, .int .i64 a, .int .i64 p, .int .i64 q, .int .i64 i], .int .i64 n] w fun ev w' => ev = .returned (.bool true) ∧ Upd [] [] w w' := by
  have M := cmdMay (Cm.mk 0 cl sq tm s a p q i)
  rw [err_ok hm] at M
  have Ma := cmdMay (Cm.mk 0 cl sq tm s a p q n)
  rw [err_bad (c := Cm.mk 0 cl sq tm s a p q n) (Bool.eq_false_iff.2 fun h => by simp [Cm.may, flds, wi] at hm h <;> omega)] at Ma
  have Mb := cmdMay (Cm.mk 0 cl sq tm s a p n i)
  rw [err_bad (c := Cm.mk 0 cl sq tm s a p n i) (Bool.eq_false_iff.2 fun h => by simp [Cm.may, flds, wi] at hm h <;> omega)] at Mb
  have Md := cmdMay (Cm.mk 0 cl n tm s a p q i)
  rw [err_bad (c := Cm.mk 0 cl n tm s a p q i) (Bool.eq_false_iff.2 fun h => by simp [Cm.may, flds, wi] at hm h <;> omega)] at Md
  simp only [Cm.val] at M Ma Mb Md
  clear hm
  have d0 : decide (1 ≤ n) = false := decide_eq_false (by omega)
  have d1 : decide (n ≤ 1099511627776) = true := decide_eq_true (by omega)
  have d2 : decide (n ≤ 1073741824) = true := decide_eq_true (by omega)
  have d9 : (n == 0) = false := beq_eq_false_iff_ne.2 (by omega)
  clear hn
  go_enter Tryd.func13, Tryd.ntmps13
  repeat' ((fail_if_success (with_reducible refine stop_append rfl ?_)); (fail_if_success (with_reducible refine stop_copy rfl ?_)); first | go_values | go_skip | go_guarded | go_step | go_upon | (simp only []; go_at_K))
  refine (awake05 _ (hG.alloc _)).mono ?_
  rintro ev w1 ⟨rfl, hu1⟩
  have hB1 := (Blk.new w 68 #[.int .i64 0, .int .i64 cl, .int .i64 sq, .int .i64 tm, .int .i64 s, .int .i64 a, .int .i64 p, .int .i64 q, .int .i64 i]).upd hu1 (by simp)
  have U1 : Upd [] [] w w1 := ((Upd.refl [] w).alloc _).trans hu1
  have b0 := hB1.cell 0
  have b1 := hB1.cell 1
  have b2 := hB1.cell 2
  have b3 := hB1.cell 3
  have b4 := hB1.cell 4
  have b5 := hB1.cell 5
  have b6 := hB1.cell 6
  have b7 := hB1.cell 7
  have b8 := hB1.cell 8
  simp at b0 b1 b2 b3 b4 b5 b6 b7 b8
  clear hu1
  repeat' ((fail_if_success (with_reducible refine stop_append rfl ?_)); (fail_if_success (with_reducible refine stop_copy rfl ?_)); first | go_values | go_skip | go_guarded | go_step | go_upon | (simp only []; go_at_K))
  refine (M _).mono ?_
  rintro ev w2 ⟨rfl, hu2⟩
  have hB2 := hB1.upd hu2 (by simp)
  have U2 := U1.trans hu2
  clear b0 b1 b2 b3 b4 b5 b6 b7 b8 hB1 U1 hu2 M
  have b0 := hB2.cell 0
  have b1 := hB2.cell 1
  have b2 := hB2.cell 2
  have b3 := hB2.cell 3
  have b4 := hB2.cell 4
  have b5 := hB2.cell 5
  have b6 := hB2.cell 6
  have b7 := hB2.cell 7
  have b8 := hB2.cell 8
  simp at b0 b1 b2 b3 b4 b5 b6 b7 b8
  repeat' ((fail_if_success (with_reducible refine stop_append rfl ?_)); (fail_if_success (with_reducible refine stop_copy rfl ?_)); first | go_values | go_skip | go_guarded | go_step | go_upon | (simp only []; go_at_K))
  refine (uses_k0 _).mono ?_
  rintro ev w3 ⟨rfl, hu3⟩
  have hB3 := hB2.upd hu3 (by simp)
  have U3 := U2.trans hu3
  have hlt := hB3.lt
  have hlt1 : w.heap.size < w3.heap.size + 1 := by omega
  have hlt2 : w.heap.size < w3.heap.size + 2 := by omega
  have hlt3 : w.heap.size < w3.heap.size + 1 + 1 := by omega
  clear b0 b1 b2 b3 b4 b5 b6 b7 b8 hB2 U2 hu3
  have b0 := hB3.cell 0
  have b1 := hB3.cell 1
  have b2 := hB3.cell 2
  have b3 := hB3.cell 3
  have b4 := hB3.cell 4
  have b5 := hB3.cell 5
  have b6 := hB3.cell 6
  have b7 := hB3.cell 7
  have b8 := hB3.cell 8
  simp at b0 b1 b2 b3 b4 b5 b6 b7 b8
  have hU : Upd [] [] w ((((w3.alloc (.cells #[.bool false, .bool false, .bool false, .bool false, .bool false] 81)).alloc (.cells #[.int .i64 0, .int .i64 cl, .int .i64 sq, .int .i64 tm, .int .i64 s, .int .i64 a, .int .i64 p, .int .i64 q, .int .i64 n] 68)).alloc (.cells #[.int .i64 0, .int .i64 cl, .int .i64 sq, .int .i64 tm, .int .i64 s, .int .i64 a, .int .i64 p, .int .i64 n, .int .i64 i] 68)).alloc (.cells #[.int .i64 0, .int .i64 cl, .int .i64 n, .int .i64 tm, .int .i64 s, .int .i64 a, .int .i64 p, .int .i64 q, .int .i64 i] 68)) := (((U3.alloc _).alloc _).alloc _).alloc _
  have h8 := (Blk.new ((w3.alloc (.cells #[.bool false, .bool false, .bool false, .bool false, .bool false] 81)).alloc (.cells #[.int .i64 0, .int .i64 cl, .int .i64 sq, .int .i64 tm, .int .i64 s, .int .i64 a, .int .i64 p, .int .i64 q, .int .i64 n] 68)) 68 #[.int .i64 0, .int .i64 cl, .int .i64 sq, .int .i64 tm, .int .i64 s, .int .i64 a, .int .i64 p, .int .i64 n, .int .i64 i]).alloc (.cells #[.int .i64 0, .int .i64 cl, .int .i64 n, .int .i64 tm, .int .i64 s, .int .i64 a, .int .i64 p, .int .i64 q, .int .i64 i] 68)
  have h9 := Blk.new (((w3.alloc (.cells #[.bool false, .bool false, .bool false, .bool false, .bool false] 81)).alloc (.cells #[.int .i64 0, .int .i64 cl, .int .i64 sq, .int .i64 tm, .int .i64 s, .int .i64 a, .int .i64 p, .int .i64 q, .int .i64 n] 68)).alloc (.cells #[.int .i64 0, .int .i64 cl, .int .i64 sq, .int .i64 tm, .int .i64 s, .int .i64 a, .int .i64 p, .int .i64 n, .int .i64 i] 68)) 68 #[.int .i64 0, .int .i64 cl, .int .i64 n, .int .i64 tm, .int .i64 s, .int .i64 a, .int .i64 p, .int .i64 q, .int .i64 i]
  simp only [World.size_alloc] at h8 h9
  repeat' ((fail_if_success (with_reducible refine stop_append rfl ?_)); (fail_if_success (with_reducible refine stop_copy rfl ?_)); first | go_values | go_skip | go_guarded | go_step | go_upon | (simp only []; go_at_K))
  refine (Ma _).mono ?_
  rintro ev w4 ⟨rfl, hu4⟩
  have k8 := h8.upd hu4 (by simp)
  have k9 := h9.upd hu4 (by simp)
  have U4 := hU.trans hu4
  clear b0 b1 b2 b3 b4 b5 b6 b7 b8 hB3 U3 h8 h9 hU hu4 Ma
  have b0 := k8.cell 0
  have b1 := k8.cell 1
  have b2 := k8.cell 2
  have b3 := k8.cell 3
  have b4 := k8.cell 4
  have b5 := k8.cell 5
  have b6 := k8.cell 6
  have b7 := k8.cell 7
  have b8 := k8.cell 8
  simp at b0 b1 b2 b3 b4 b5 b6 b7 b8
  repeat' ((fail_if_success (with_reducible refine stop_append rfl ?_)); (fail_if_success (with_reducible refine stop_copy rfl ?_)); first | go_values | go_skip | go_guarded | go_step | go_upon | (simp only []; go_at_K))
  refine (Mb _).mono ?_
  rintro ev w5 ⟨rfl, hu5⟩
  have k9 := k9.upd hu5 (by simp)
  have U5 := U4.trans hu5
  clear b0 b1 b2 b3 b4 b5 b6 b7 b8 k8 U4 hu5 Mb
  have b0 := k9.cell 0
  have b1 := k9.cell 1
  have b2 := k9.cell 2
  have b3 := k9.cell 3
  have b4 := k9.cell 4
  have b5 := k9.cell 5
  have b6 := k9.cell 6
  have b7 := k9.cell 7
  have b8 := k9.cell 8
  simp at b0 b1 b2 b3 b4 b5 b6 b7 b8
  repeat' ((fail_if_success (with_reducible refine stop_append rfl ?_)); (fail_if_success (with_reducible refine stop_copy rfl ?_)); first | go_values | go_skip | go_guarded | go_step | go_upon | (simp only []; go_at_K))
  refine (Md _).mono ?_
  rintro ev w6 ⟨rfl, hu6⟩
  repeat' ((fail_if_success (with_reducible refine stop_append rfl ?_)); (fail_if_success (with_reducible refine stop_copy rfl ?_)); first | go_values | go_skip | go_guarded | go_step | go_upon | (simp only []; go_at_K))
  go_ret
  exact ⟨rfl, U5.trans hu6⟩

set_option maxRecDepth 100000 in
set_option maxHeartbeats 4000000 in
theorem cf_0_zero (w : World) (hG : GoodG w) (cl sq tm s a p q i : Int) (hm : (Cm.mk 0 cl sq tm s a p q i).may = true) :
    Calls Tryd.prog 13 #[.agg #[.int .i64 0, .int .i64 cl, .int .i64 sq, .int .i64 tm, .int .i64 s, .int .i64 a, .int .i64 p, .int .i64 q, .int .i64 i], .int .i64 0] w fun ev w' => ev = .returned (.bool true) ∧ Upd [] [] w w' := by
  have M := cmdMay (Cm.mk 0 cl sq tm s a p q i)
  rw [err_ok hm] at M
  have Ma := cmdMay (Cm.mk 0 cl sq tm s a p q 0)
  rw [err_ok (c := Cm.mk 0 cl sq tm s a p q 0) (by simp [Cm.may, flds, wi] at hm ⊢ <;> omega)] at Ma
  have Mb := cmdMay (Cm.mk 0 cl sq tm s a p 0 i)
  rw [err_ok (c := Cm.mk 0 cl sq tm s a p 0 i) (by simp [Cm.may, flds, wi] at hm ⊢ <;> omega)] at Mb
  have Md := cmdMay (Cm.mk 0 cl 0 tm s a p q i)
  rw [err_bad (c := Cm.mk 0 cl 0 tm s a p q i) (Bool.eq_false_iff.2 fun h => by simp [Cm.may, flds, wi] at hm h <;> omega)] at Md
  simp only [Cm.val] at M Ma Mb Md
  clear hm
  go_enter Tryd.func13, Tryd.ntmps13
  repeat' ((fail_if_success (with_reducible refine stop_append rfl ?_)); (fail_if_success (with_reducible refine stop_copy rfl ?_)); first | go_values | go_skip | go_guarded | go_step | go_upon | (simp only []; go_at_K))
  refine (awake05 _ (hG.alloc _)).mono ?_
  rintro ev w1 ⟨rfl, hu1⟩
  have hB1 := (Blk.new w 68 #[.int .i64 0, .int .i64 cl, .int .i64 sq, .int .i64 tm, .int .i64 s, .int .i64 a, .int .i64 p, .int .i64 q, .int .i64 i]).upd hu1 (by simp)
  have U1 : Upd [] [] w w1 := ((Upd.refl [] w).alloc _).trans hu1
  have b0 := hB1.cell 0
  have b1 := hB1.cell 1
  have b2 := hB1.cell 2
  have b3 := hB1.cell 3
  have b4 := hB1.cell 4
  have b5 := hB1.cell 5
  have b6 := hB1.cell 6
  have b7 := hB1.cell 7
  have b8 := hB1.cell 8
  simp at b0 b1 b2 b3 b4 b5 b6 b7 b8
  clear hu1
  repeat' ((fail_if_success (with_reducible refine stop_append rfl ?_)); (fail_if_success (with_reducible refine stop_copy rfl ?_)); first | go_values | go_skip | go_guarded | go_step | go_upon | (simp only []; go_at_K))
  refine (M _).mono ?_
  rintro ev w2 ⟨rfl, hu2⟩
  have hB2 := hB1.upd hu2 (by simp)
  have U2 := U1.trans hu2
  clear b0 b1 b2 b3 b4 b5 b6 b7 b8 hB1 U1 hu2 M
  have b0 := hB2.cell 0
  have b1 := hB2.cell 1
  have b2 := hB2.cell 2
  have b3 := hB2.cell 3
  have b4 := hB2.cell 4
  have b5 := hB2.cell 5
  have b6 := hB2.cell 6
  have b7 := hB2.cell 7
  have b8 := hB2.cell 8
  simp at b0 b1 b2 b3 b4 b5 b6 b7 b8
  repeat' ((fail_if_success (with_reducible refine stop_append rfl ?_)); (fail_if_success (with_reducible refine stop_copy rfl ?_)); first | go_values | go_skip | go_guarded | go_step | go_upon | (simp only []; go_at_K))
  refine (uses_k0 _).mono ?_
  rintro ev w3 ⟨rfl, hu3⟩
  have hB3 := hB2.upd hu3 (by simp)
  have U3 := U2.trans hu3
  have hlt := hB3.lt
  have hlt1 : w.heap.size < w3.heap.size + 1 := by omega
  have hlt2 : w.heap.size < w3.heap.size + 2 := by omega
  have hlt3 : w.heap.size < w3.heap.size + 1 + 1 := by omega
  clear b0 b1 b2 b3 b4 b5 b6 b7 b8 hB2 U2 hu3
  have b0 := hB3.cell 0
  have b1 := hB3.cell 1
  have b2 := hB3.cell 2
  have b3 := hB3.cell 3
  have b4 := hB3.cell 4
  have b5 := hB3.cell 5
  have b6 := hB3.cell 6
  have b7 := hB3.cell 7
  have b8 := hB3.cell 8
  simp at b0 b1 b2 b3 b4 b5 b6 b7 b8
  have hU : Upd [] [] w ((((w3.alloc (.cells #[.bool false, .bool false, .bool false, .bool false, .bool false] 81)).alloc (.cells #[.int .i64 0, .int .i64 cl, .int .i64 sq, .int .i64 tm, .int .i64 s, .int .i64 a, .int .i64 p, .int .i64 q, .int .i64 0] 68)).alloc (.cells #[.int .i64 0, .int .i64 cl, .int .i64 sq, .int .i64 tm, .int .i64 s, .int .i64 a, .int .i64 p, .int .i64 0, .int .i64 i] 68)).alloc (.cells #[.int .i64 0, .int .i64 cl, .int .i64 0, .int .i64 tm, .int .i64 s, .int .i64 a, .int .i64 p, .int .i64 q, .int .i64 i] 68)) := (((U3.alloc _).alloc _).alloc _).alloc _
  have h8 := (Blk.new ((w3.alloc (.cells #[.bool false, .bool false, .bool false, .bool false, .bool false] 81)).alloc (.cells #[.int .i64 0, .int .i64 cl, .int .i64 sq, .int .i64 tm, .int .i64 s, .int .i64 a, .int .i64 p, .int .i64 q, .int .i64 0] 68)) 68 #[.int .i64 0, .int .i64 cl, .int .i64 sq, .int .i64 tm, .int .i64 s, .int .i64 a, .int .i64 p, .int .i64 0, .int .i64 i]).alloc (.cells #[.int .i64 0, .int .i64 cl, .int .i64 0, .int .i64 tm, .int .i64 s, .int .i64 a, .int .i64 p, .int .i64 q, .int .i64 i] 68)
  have h9 := Blk.new (((w3.alloc (.cells #[.bool false, .bool false, .bool false, .bool false, .bool false] 81)).alloc (.cells #[.int .i64 0, .int .i64 cl, .int .i64 sq, .int .i64 tm, .int .i64 s, .int .i64 a, .int .i64 p, .int .i64 q, .int .i64 0] 68)).alloc (.cells #[.int .i64 0, .int .i64 cl, .int .i64 sq, .int .i64 tm, .int .i64 s, .int .i64 a, .int .i64 p, .int .i64 0, .int .i64 i] 68)) 68 #[.int .i64 0, .int .i64 cl, .int .i64 0, .int .i64 tm, .int .i64 s, .int .i64 a, .int .i64 p, .int .i64 q, .int .i64 i]
  simp only [World.size_alloc] at h8 h9
  repeat' ((fail_if_success (with_reducible refine stop_append rfl ?_)); (fail_if_success (with_reducible refine stop_copy rfl ?_)); first | go_values | go_skip | go_guarded | go_step | go_upon | (simp only []; go_at_K))
  refine (Ma _).mono ?_
  rintro ev w4 ⟨rfl, hu4⟩
  have k8 := h8.upd hu4 (by simp)
  have k9 := h9.upd hu4 (by simp)
  have U4 := hU.trans hu4
  clear b0 b1 b2 b3 b4 b5 b6 b7 b8 hB3 U3 h8 h9 hU hu4 Ma
  have b0 := k8.cell 0
  have b1 := k8.cell 1
  have b2 := k8.cell 2
  have b3 := k8.cell 3
  have b4 := k8.cell 4
  have b5 := k8.cell 5
  have b6 := k8.cell 6
  have b7 := k8.cell 7
  have b8 := k8.cell 8
  simp at b0 b1 b2 b3 b4 b5 b6 b7 b8
  repeat' ((fail_if_success (with_reducible refine stop_append rfl ?_)); (fail_if_success (with_reducible refine stop_copy rfl ?_)); first | go_values | go_skip | go_guarded | go_step | go_upon | (simp only []; go_at_K))
  refine (Mb _).mono ?_
  rintro ev w5 ⟨rfl, hu5⟩
  have k9 := k9.upd hu5 (by simp)
  have U5 := U4.trans hu5
  clear b0 b1 b2 b3 b4 b5 b6 b7 b8 k8 U4 hu5 Mb
  have b0 := k9.cell 0
  have b1 := k9.cell 1
  have b2 := k9.cell 2
  have b3 := k9.cell 3
  have b4 := k9.cell 4
  have b5 := k9.cell 5
  have b6 := k9.cell 6
  have b7 := k9.cell 7
  have b8 := k9.cell 8
  simp at b0 b1 b2 b3 b4 b5 b6 b7 b8
  repeat' ((fail_if_success (with_reducible refine stop_append rfl ?_)); (fail_if_success (with_reducible refine stop_copy rfl ?_)); first | go_values | go_skip | go_guarded | go_step | go_upon | (simp only []; go_at_K))
  refine (Md _).mono ?_
  rintro ev w6 ⟨rfl, hu6⟩
  repeat' ((fail_if_success (with_reducible refine stop_append rfl ?_)); (fail_if_success (with_reducible refine stop_copy rfl ?_)); first | go_values | go_skip | go_guarded | go_step | go_upon | (simp only []; go_at_K))
  go_ret
  exact ⟨rfl, U5.trans hu6⟩

set_option maxRecDepth 100000 in
set_option maxHeartbeats 4000000 in
theorem cf_0_low (w : World) (hG : GoodG w) (cl sq tm s a p q i n : Int) (hn : 1 ≤ n ∧ n ≤ 1073741824) (hm : (Cm.mk 0 cl sq tm s a p q i).may = true) :
    Calls Tryd.prog 13 #[.agg #[.int .i64 0, .int .i64 cl, .int .i64 sq, .int .i64 tm, .int .i64 s, .int .i64 a, .int .i64 p, .int .i64 q, .int .i64 i], .int .i64 n] w fun ev w' => ev = .returned (.bool true) ∧ Upd [] [] w w' := by
  have M := cmdMay (Cm.mk 0 cl sq tm s a p q i)
  rw [err_ok hm] at M
  have Ma := cmdMay (Cm.mk 0 cl sq tm s a p q n)
  rw [err_bad (c := Cm.mk 0 cl sq tm s a p q n) (Bool.eq_false_iff.2 fun h => by simp [Cm.may, flds, wi] at hm h <;> omega)] at Ma
  have Mb := cmdMay (Cm.mk 0 cl sq tm s a p n i)
  rw [err_bad (c := Cm.mk 0 cl sq tm s a p n i) (Bool.eq_false_iff.2 fun h => by simp [Cm.may, flds, wi] at hm h <;> omega)] at Mb
  have Md := cmdMay (Cm.mk 0 cl n tm s a p q i)
  rw [err_ok (c := Cm.mk 0 cl n tm s a p q i) (by simp [Cm.may, flds, wi] at hm ⊢ <;> omega)] at Md
  simp only [Cm.val] at M Ma Mb Md
  clear hm
  have d0 : decide (1 ≤ n) = true := decide_eq_true (by omega)
  have d1 : decide (n ≤ 1099511627776) = true := decide_eq_true (by omega)
  have d2 : decide (n ≤ 1073741824) = true := decide_eq_true (by omega)
  have d9 : (n == 0) = false := beq_eq_false_iff_ne.2 (by omega)
  clear hn
  go_enter Tryd.func13, Tryd.ntmps13
  repeat' ((fail_if_success (with_reducible refine stop_append rfl ?_)); (fail_if_success (with_reducible refine stop_copy rfl ?_)); first | go_values | go_skip | go_guarded | go_step | go_upon | (simp only []; go_at_K))
  refine (awake05 _ (hG.alloc _)).mono ?_
  rintro ev w1 ⟨rfl, hu1⟩
  have hB1 := (Blk.new w 68 #[.int .i64 0, .int .i64 cl, .int .i64 sq, .int .i64 tm, .int .i64 s, .int .i64 a, .int .i64 p, .int .i64 q, .int .i64 i]).upd hu1 (by simp)
  have U1 : Upd [] [] w w1 := ((Upd.refl [] w).alloc _).trans hu1
  have b0 := hB1.cell 0
  have b1 := hB1.cell 1
  have b2 := hB1.cell 2
  have b3 := hB1.cell 3
  have b4 := hB1.cell 4
  have b5 := hB1.cell 5
  have b6 := hB1.cell 6
  have b7 := hB1.cell 7
  have b8 := hB1.cell 8
  simp at b0 b1 b2 b3 b4 b5 b6 b7 b8
  clear hu1
  repeat' ((fail_if_success (with_reducible refine stop_append rfl ?_)); (fail_if_success (with_reducible refine stop_copy rfl ?_)); first | go_values | go_skip | go_guarded | go_step | go_upon | (simp only []; go_at_K))
  refine (M _).mono ?_
  rintro ev w2 ⟨rfl, hu2⟩
  have hB2 := hB1.upd hu2 (by simp)
  have U2 := U1.trans hu2
  clear b0 b1 b2 b3 b4 b5 b6 b7 b8 hB1 U1 hu2 M
  have b0 := hB2.cell 0
  have b1 := hB2.cell 1
  have b2 := hB2.cell 2
  have b3 := hB2.cell 3
  have b4 := hB2.cell 4
  have b5 := hB2.cell 5
  have b6 := hB2.cell 6
  have b7 := hB2.cell 7
  have b8 := hB2.cell 8
  simp at b0 b1 b2 b3 b4 b5 b6 b7 b8
  repeat' ((fail_if_success (with_reducible refine stop_append rfl ?_)); (fail_if_success (with_reducible refine stop_copy rfl ?_)); first | go_values | go_skip | go_guarded | go_step | go_upon | (simp only []; go_at_K))
  refine (uses_k0 _).mono ?_
  rintro ev w3 ⟨rfl, hu3⟩
  have hB3 := hB2.upd hu3 (by simp)
  have U3 := U2.trans hu3
  have hlt := hB3.lt
  have hlt1 : w.heap.size < w3.heap.size + 1 := by omega
  have hlt2 : w.heap.size < w3.heap.size + 2 := by omega
  have hlt3 : w.heap.size < w3.heap.size + 1 + 1 := by omega
  clear b0 b1 b2 b3 b4 b5 b6 b7 b8 hB2 U2 hu3
  have b0 := hB3.cell 0
  have b1 := hB3.cell 1
  have b2 := hB3.cell 2
  have b3 := hB3.cell 3
  have b4 := hB3.cell 4
  have b5 := hB3.cell 5
  have b6 := hB3.cell 6
  have b7 := hB3.cell 7
  have b8 := hB3.cell 8
  simp at b0 b1 b2 b3 b4 b5 b6 b7 b8
  have hU : Upd [] [] w ((((w3.alloc (.cells #[.bool false, .bool false, .bool false, .bool false, .bool false] 81)).alloc (.cells #[.int .i64 0, .int .i64 cl, .int .i64 sq, .int .i64 tm, .int .i64 s, .int .i64 a, .int .i64 p, .int .i64 q, .int .i64 n] 68)).alloc (.cells #[.int .i64 0, .int .i64 cl, .int .i64 sq, .int .i64 tm, .int .i64 s, .int .i64 a, .int .i64 p, .int .i64 n, .int .i64 i] 68)).alloc (.cells #[.int .i64 0, .int .i64 cl, .int .i64 n, .int .i64 tm, .int .i64 s, .int .i64 a, .int .i64 p, .int .i64 q, .int .i64 i] 68)) := (((U3.alloc _).alloc _).alloc _).alloc _
  have h8 := (Blk.new ((w3.alloc (.cells #[.bool false, .bool false, .bool false, .bool false, .bool false] 81)).alloc (.cells #[.int .i64 0, .int .i64 cl, .int .i64 sq, .int .i64 tm, .int .i64 s, .int .i64 a, .int .i64 p, .int .i64 q, .int .i64 n] 68)) 68 #[.int .i64 0, .int .i64 cl, .int .i64 sq, .int .i64 tm, .int .i64 s, .int .i64 a, .int .i64 p, .int .i64 n, .int .i64 i]).alloc (.cells #[.int .i64 0, .int .i64 cl, .int .i64 n, .int .i64 tm, .int .i64 s, .int .i64 a, .int .i64 p, .int .i64 q, .int .i64 i] 68)
  have h9 := Blk.new (((w3.alloc (.cells #[.bool false, .bool false, .bool false, .bool false, .bool false] 81)).alloc (.cells #[.int .i64 0, .int .i64 cl, .int .i64 sq, .int .i64 tm, .int .i64 s, .int .i64 a, .int .i64 p, .int .i64 q, .int .i64 n] 68)).alloc (.cells #[.int .i64 0, .int .i64 cl, .int .i64 sq, .int .i64 tm, .int .i64 s, .int .i64 a, .int .i64 p, .int .i64 n, .int .i64 i] 68)) 68 #[.int .i64 0, .int .i64 cl, .int .i64 n, .int .i64 tm, .int .i64 s, .int .i64 a, .int .i64 p, .int .i64 q, .int .i64 i]
  simp only [World.size_alloc] at h8 h9
  repeat' ((fail_if_success (with_reducible refine stop_append rfl ?_)); (fail_if_success (with_reducible refine stop_copy rfl ?_)); first | go_values | go_skip | go_guarded | go_step | go_upon | (simp only []; go_at_K))
  refine (Ma _).mono ?_
  rintro ev w4 ⟨rfl, hu4⟩
  have k8 := h8.upd hu4 (by simp)
  have k9 := h9.upd hu4 (by simp)
  have U4 := hU.trans hu4
  clear b0 b1 b2 b3 b4 b5 b6 b7 b8 hB3 U3 h8 h9 hU hu4 Ma
  have b0 := k8.cell 0
  have b1 := k8.cell 1
  have b2 := k8.cell 2
  have b3 := k8.cell 3
  have b4 := k8.cell 4
  have b5 := k8.cell 5
  have b6 := k8.cell 6
  have b7 := k8.cell 7
  have b8 := k8.cell 8
  simp at b0 b1 b2 b3 b4 b5 b6 b7 b8
  repeat' ((fail_if_success (with_reducible refine stop_append rfl ?_)); (fail_if_success (with_reducible refine stop_copy rfl ?_)); first | go_values | go_skip | go_guarded | go_step | go_upon | (simp only []; go_at_K))
  refine (Mb _).mono ?_
  rintro ev w5 ⟨rfl, hu5⟩
  have k9 := k9.upd hu5 (by simp)
  have U5 := U4.trans hu5
  clear b0 b1 b2 b3 b4 b5 b6 b7 b8 k8 U4 hu5 Mb
  have b0 := k9.cell 0
  have b1 := k9.cell 1
  have b2 := k9.cell 2
  have b3 := k9.cell 3
  have b4 := k9.cell 4
  have b5 := k9.cell 5
  have b6 := k9.cell 6
  have b7 := k9.cell 7
  have b8 := k9.cell 8
  simp at b0 b1 b2 b3 b4 b5 b6 b7 b8
  repeat' ((fail_if_success (with_reducible refine stop_append rfl ?_)); (fail_if_success (with_reducible refine stop_copy rfl ?_)); first | go_values | go_skip | go_guarded | go_step | go_upon | (simp only []; go_at_K))
  refine (Md _).mono ?_
  rintro ev w6 ⟨rfl, hu6⟩
  repeat' ((fail_if_success (with_reducible refine stop_append rfl ?_)); (fail_if_success (with_reducible refine stop_copy rfl ?_)); first | go_values | go_skip | go_guarded | go_step | go_upon | (simp only []; go_at_K))
  go_ret
  exact ⟨rfl, U5.trans hu6⟩

set_option maxRecDepth 100000 in
set_option maxHeartbeats 4000000 in
theorem cf_0_mid (w : World) (hG : GoodG w) (cl sq tm s a p q i n : Int) (hn : 1073741824 < n ∧ n ≤ 1099511627776) (hm : (Cm.mk 0 cl sq tm s a p q i).may = true) :
    Calls Tryd.prog 13 #[.agg #[.int .i64 0, .int .i64 cl, .int .i64 sq, .int .i64 tm, .int .i64 s, .int .i64 a, .int .i64 p, .int .i64 q, .int .i64 i], .int .i64 n] w fun ev w' => ev = .returned (.bool true) ∧ Upd [] [] w w' := by
  have M := cmdMay (Cm.mk 0 cl sq tm s a p q i)
  rw [err_ok hm] at M
  have Ma := cmdMay (Cm.mk 0 cl sq tm s a p q n)
  rw [err_bad (c := Cm.mk 0 cl sq tm s a p q n) (Bool.eq_false_iff.2 fun h => by simp [Cm.may, flds, wi] at hm h <;> omega)] at Ma
  have Mb := cmdMay (Cm.mk 0 cl sq tm s a p n i)
  rw [err_bad (c := Cm.mk 0 cl sq tm s a p n i) (Bool.eq_false_iff.2 fun h => by simp [Cm.may, flds, wi] at hm h <;> omega)] at Mb
  have Md := cmdMay (Cm.mk 0 cl n tm s a p q i)
  rw [err_ok (c := Cm.mk 0 cl n tm s a p q i) (by simp [Cm.may, flds, wi] at hm ⊢ <;> omega)] at Md
  simp only [Cm.val] at M Ma Mb Md
  clear hm
  have d0 : decide (1 ≤ n) = true := decide_eq_true (by omega)
  have d1 : decide (n ≤ 1099511627776) = true := decide_eq_true (by omega)
  have d2 : decide (n ≤ 1073741824) = false := decide_eq_false (by omega)
  have d9 : (n == 0) = false := beq_eq_false_iff_ne.2 (by omega)
  clear hn
  go_enter Tryd.func13, Tryd.ntmps13
  repeat' ((fail_if_success (with_reducible refine stop_append rfl ?_)); (fail_if_success (with_reducible refine stop_copy rfl ?_)); first | go_values | go_skip | go_guarded | go_step | go_upon | (simp only []; go_at_K))
  refine (awake05 _ (hG.alloc _)).mono ?_
  rintro ev w1 ⟨rfl, hu1⟩
  have hB1 := (Blk.new w 68 #[.int .i64 0, .int .i64 cl, .int .i64 sq, .int .i64 tm, .int .i64 s, .int .i64 a, .int .i64 p, .int .i64 q, .int .i64 i]).upd hu1 (by simp)
  have U1 : Upd [] [] w w1 := ((Upd.refl [] w).alloc _).trans hu1
  have b0 := hB1.cell 0
  have b1 := hB1.cell 1
  have b2 := hB1.cell 2
  have b3 := hB1.cell 3
  have b4 := hB1.cell 4
  have b5 := hB1.cell 5
  have b6 := hB1.cell 6
  have b7 := hB1.cell 7
  have b8 := hB1.cell 8
  simp at b0 b1 b2 b3 b4 b5 b6 b7 b8
  clear hu1
  repeat' ((fail_if_success (with_reducible refine stop_append rfl ?_)); (fail_if_success (with_reducible refine stop_copy rfl ?_)); first | go_values | go_skip | go_guarded | go_step | go_upon | (simp only []; go_at_K))
  refine (M _).mono ?_
  rintro ev w2 ⟨rfl, hu2⟩
  have hB2 := hB1.upd hu2 (by simp)
  have U2 := U1.trans hu2
  clear b0 b1 b2 b3 b4 b5 b6 b7 b8 hB1 U1 hu2 M
  have b0 := hB2.cell 0
  have b1 := hB2.cell 1
  have b2 := hB2.cell 2
  have b3 := hB2.cell 3
  have b4 := hB2.cell 4
  have b5 := hB2.cell 5
  have b6 := hB2.cell 6
  have b7 := hB2.cell 7
  have b8 := hB2.cell 8
  simp at b0 b1 b2 b3 b4 b5 b6 b7 b8
  repeat' ((fail_if_success (with_reducible refine stop_append rfl ?_)); (fail_if_success (with_reducible refine stop_copy rfl ?_)); first | go_values | go_skip | go_guarded | go_step | go_upon | (simp only []; go_at_K))
  refine (uses_k0 _).mono ?_
  rintro ev w3 ⟨rfl, hu3⟩
  have hB3 := hB2.upd hu3 (by simp)
  have U3 := U2.trans hu3
  have hlt := hB3.lt
  have hlt1 : w.heap.size < w3.heap.size + 1 := by omega
  have hlt2 : w.heap.size < w3.heap.size + 2 := by omega
  have hlt3 : w.heap.size < w3.heap.size + 1 + 1 := by omega
  clear b0 b1 b2 b3 b4 b5 b6 b7 b8 hB2 U2 hu3
  have b0 := hB3.cell 0
  have b1 := hB3.cell 1
  have b2 := hB3.cell 2
  have b3 := hB3.cell 3
  have b4 := hB3.cell 4
  have b5 := hB3.cell 5
  have b6 := hB3.cell 6
  have b7 := hB3.cell 7
  have b8 := hB3.cell 8
  simp at b0 b1 b2 b3 b4 b5 b6 b7 b8
  have hU : Upd [] [] w ((((w3.alloc (.cells #[.bool false, .bool false, .bool false, .bool false, .bool false] 81)).alloc (.cells #[.int .i64 0, .int .i64 cl, .int .i64 sq, .int .i64 tm, .int .i64 s, .int .i64 a, .int .i64 p, .int .i64 q, .int .i64 n] 68)).alloc (.cells #[.int .i64 0, .int .i64 cl, .int .i64 sq, .int .i64 tm, .int .i64 s, .int .i64 a, .int .i64 p, .int .i64 n, .int .i64 i] 68)).alloc (.cells #[.int .i64 0, .int .i64 cl, .int .i64 n, .int .i64 tm, .int .i64 s, .int .i64 a, .int .i64 p, .int .i64 q, .int .i64 i] 68)) := (((U3.alloc _).alloc _).alloc _).alloc _
  have h8 := (Blk.new ((w3.alloc (.cells #[.bool false, .bool false, .bool false, .bool false, .bool false] 81)).alloc (.cells #[.int .i64 0, .int .i64 cl, .int .i64 sq, .int .i64 tm, .int .i64 s, .int .i64 a, .int .i64 p, .int .i64 q, .int .i64 n] 68)) 68 #[.int .i64 0, .int .i64 cl, .int .i64 sq, .int .i64 tm, .int .i64 s, .int .i64 a, .int .i64 p, .int .i64 n, .int .i64 i]).alloc (.cells #[.int .i64 0, .int .i64 cl, .int .i64 n, .int .i64 tm, .int .i64 s, .int .i64 a, .int .i64 p, .int .i64 q, .int .i64 i] 68)
  have h9 := Blk.new (((w3.alloc (.cells #[.bool false, .bool false, .bool false, .bool false, .bool false] 81)).alloc (.cells #[.int .i64 0, .int .i64 cl, .int .i64 sq, .int .i64 tm, .int .i64 s, .int .i64 a, .int .i64 p, .int .i64 q, .int .i64 n] 68)).alloc (.cells #[.int .i64 0, .int .i64 cl, .int .i64 sq, .int .i64 tm, .int .i64 s, .int .i64 a, .int .i64 p, .int .i64 n, .int .i64 i] 68)) 68 #[.int .i64 0, .int .i64 cl, .int .i64 n, .int .i64 tm, .int .i64 s, .int .i64 a, .int .i64 p, .int .i64 q, .int .i64 i]
  simp only [World.size_alloc] at h8 h9
  repeat' ((fail_if_success (with_reducible refine stop_append rfl ?_)); (fail_if_success (with_reducible refine stop_copy rfl ?_)); first | go_values | go_skip | go_guarded | go_step | go_upon | (simp only []; go_at_K))
  refine (Ma _).mono ?_
  rintro ev w4 ⟨rfl, hu4⟩
  have k8 := h8.upd hu4 (by simp)
  have k9 := h9.upd hu4 (by simp)
  have U4 := hU.trans hu4
  clear b0 b1 b2 b3 b4 b5 b6 b7 b8 hB3 U3 h8 h9 hU hu4 Ma
  have b0 := k8.cell 0
  have b1 := k8.cell 1
  have b2 := k8.cell 2
  have b3 := k8.cell 3
  have b4 := k8.cell 4
  have b5 := k8.cell 5
  have b6 := k8.cell 6
  have b7 := k8.cell 7
  have b8 := k8.cell 8
  simp at b0 b1 b2 b3 b4 b5 b6 b7 b8
  repeat' ((fail_if_success (with_reducible refine stop_append rfl ?_)); (fail_if_success (with_reducible refine stop_copy rfl ?_)); first | go_values | go_skip | go_guarded | go_step | go_upon | (simp only []; go_at_K))
  refine (Mb _).mono ?_
  rintro ev w5 ⟨rfl, hu5⟩
  have k9 := k9.upd hu5 (by simp)
  have U5 := U4.trans hu5
  clear b0 b1 b2 b3 b4 b5 b6 b7 b8 k8 U4 hu5 Mb
  have b0 := k9.cell 0
  have b1 := k9.cell 1
  have b2 := k9.cell 2
  have b3 := k9.cell 3
  have b4 := k9.cell 4
  have b5 := k9.cell 5
  have b6 := k9.cell 6
  have b7 := k9.cell 7
  have b8 := k9.cell 8
  simp at b0 b1 b2 b3 b4 b5 b6 b7 b8
  repeat' ((fail_if_success (with_reducible refine stop_append rfl ?_)); (fail_if_success (with_reducible refine stop_copy rfl ?_)); first | go_values | go_skip | go_guarded | go_step | go_upon | (simp only []; go_at_K))
  refine (Md _).mono ?_
  rintro ev w6 ⟨rfl, hu6⟩
  repeat' ((fail_if_success (with_reducible refine stop_append rfl ?_)); (fail_if_success (with_reducible refine stop_copy rfl ?_)); first | go_values | go_skip | go_guarded | go_step | go_upon | (simp only []; go_at_K))
  go_ret
  exact ⟨rfl, U5.trans hu6⟩

set_option maxRecDepth 100000 in
set_option maxHeartbeats 4000000 in
theorem cf_0_high (w : World) (hG : GoodG w) (cl sq tm s a p q i n : Int) (hn : 1099511627776 < n) (hm : (Cm.mk 0 cl sq tm s a p q i).may = true) :
    Calls Tryd.prog 13 #[.agg #[.int .i64 0, .int .i64 cl, .int .i64 sq, .int .i64 tm, .int .i64 s, .int .i64 a, .int .i64 p, .int .i64 q, .int .i64 i], .int .i64 n] w fun ev w' => ev = .returned (.bool true) ∧ Upd [] [] w w' := by
  have M := cmdMay (Cm.mk 0 cl sq tm s a p q i)
  rw [err_ok hm] at M
  have Ma := cmdMay (Cm.mk 0 cl sq tm s a p q n)
  rw [err_bad (c := Cm.mk 0 cl sq tm s a p q n) (Bool.eq_false_iff.2 fun h => by simp [Cm.may, flds, wi] at hm h <;> omega)] at Ma
  have Mb := cmdMay (Cm.mk 0 cl sq tm s a p n i)
  rw [err_bad (c := Cm.mk 0 cl sq tm s a p n i) (Bool.eq_false_iff.2 fun h => by simp [Cm.may, flds, wi] at hm h <;> omega)] at Mb
  have Md := cmdMay (Cm.mk 0 cl n tm s a p q i)
  rw [err_bad (c := Cm.mk 0 cl n tm s a p q i) (Bool.eq_false_iff.2 fun h => by simp [Cm.may, flds, wi] at hm h <;> omega)] at Md
  simp only [Cm.val] at M Ma Mb Md
  clear hm
  have d0 : decide (1 ≤ n) = true := decide_eq_true (by omega)
  have d1 : decide (n ≤ 1099511627776) = false := decide_eq_false (by omega)
  have d2 : decide (n ≤ 1073741824) = false := decide_eq_false (by omega)
  have d9 : (n == 0) = false := beq_eq_false_iff_ne.2 (by omega)
  clear hn
  go_enter Tryd.func13, Tryd.ntmps13
  repeat' ((fail_if_success (with_reducible refine stop_append rfl ?_)); (fail_if_success (with_reducible refine stop_copy rfl ?_)); first | go_values | go_skip | go_guarded | go_step | go_upon | (simp only []; go_at_K))
  refine (awake05 _ (hG.alloc _)).mono ?_
  rintro ev w1 ⟨rfl, hu1⟩
  have hB1 := (Blk.new w 68 #[.int .i64 0, .int .i64 cl, .int .i64 sq, .int .i64 tm, .int .i64 s, .int .i64 a, .int .i64 p, .int .i64 q, .int .i64 i]).upd hu1 (by simp)
  have U1 : Upd [] [] w w1 := ((Upd.refl [] w).alloc _).trans hu1
  have b0 := hB1.cell 0
  have b1 := hB1.cell 1
  have b2 := hB1.cell 2
  have b3 := hB1.cell 3
  have b4 := hB1.cell 4
  have b5 := hB1.cell 5
  have b6 := hB1.cell 6
  have b7 := hB1.cell 7
  have b8 := hB1.cell 8
  simp at b0 b1 b2 b3 b4 b5 b6 b7 b8
  clear hu1
  repeat' ((fail_if_success (with_reducible refine stop_append rfl ?_)); (fail_if_success (with_reducible refine stop_copy rfl ?_)); first | go_values | go_skip | go_guarded | go_step | go_upon | (simp only []; go_at_K))
  refine (M _).mono ?_
  rintro ev w2 ⟨rfl, hu2⟩
  have hB2 := hB1.upd hu2 (by simp)
  have U2 := U1.trans hu2
  clear b0 b1 b2 b3 b4 b5 b6 b7 b8 hB1 U1 hu2 M
  have b0 := hB2.cell 0
  have b1 := hB2.cell 1
  have b2 := hB2.cell 2
  have b3 := hB2.cell 3
  have b4 := hB2.cell 4
  have b5 := hB2.cell 5
  have b6 := hB2.cell 6
  have b7 := hB2.cell 7
  have b8 := hB2.cell 8
  simp at b0 b1 b2 b3 b4 b5 b6 b7 b8
  repeat' ((fail_if_success (with_reducible refine stop_append rfl ?_)); (fail_if_success (with_reducible refine stop_copy rfl ?_)); first | go_values | go_skip | go_guarded | go_step | go_upon | (simp only []; go_at_K))
  refine (uses_k0 _).mono ?_
  rintro ev w3 ⟨rfl, hu3⟩
  have hB3 := hB2.upd hu3 (by simp)
  have U3 := U2.trans hu3
  have hlt := hB3.lt
  have hlt1 : w.heap.size < w3.heap.size + 1 := by omega
  have hlt2 : w.heap.size < w3.heap.size + 2 := by omega
  have hlt3 : w.heap.size < w3.heap.size + 1 + 1 := by omega
  clear b0 b1 b2 b3 b4 b5 b6 b7 b8 hB2 U2 hu3
  have b0 := hB3.cell 0
  have b1 := hB3.cell 1
  have b2 := hB3.cell 2
  have b3 := hB3.cell 3
  have b4 := hB3.cell 4
  have b5 := hB3.cell 5
  have b6 := hB3.cell 6
  have b7 := hB3.cell 7
  have b8 := hB3.cell 8
  simp at b0 b1 b2 b3 b4 b5 b6 b7 b8
  have hU : Upd [] [] w ((((w3.alloc (.cells #[.bool false, .bool false, .bool false, .bool false, .bool false] 81)).alloc (.cells #[.int .i64 0, .int .i64 cl, .int .i64 sq, .int .i64 tm, .int .i64 s, .int .i64 a, .int .i64 p, .int .i64 q, .int .i64 n] 68)).alloc (.cells #[.int .i64 0, .int .i64 cl, .int .i64 sq, .int .i64 tm, .int .i64 s, .int .i64 a, .int .i64 p, .int .i64 n, .int .i64 i] 68)).alloc (.cells #[.int .i64 0, .int .i64 cl, .int .i64 n, .int .i64 tm, .int .i64 s, .int .i64 a, .int .i64 p, .int .i64 q, .int .i64 i] 68)) := (((U3.alloc _).alloc _).alloc _).alloc _
  have h8 := (Blk.new ((w3.alloc (.cells #[.bool false, .bool false, .bool false, .bool false, .bool false] 81)).alloc (.cells #[.int .i64 0, .int .i64 cl, .int .i64 sq, .int .i64 tm, .int .i64 s, .int .i64 a, .int .i64 p, .int .i64 q, .int .i64 n] 68)) 68 #[.int .i64 0, .int .i64 cl, .int .i64 sq, .int .i64 tm, .int .i64 s, .int .i64 a, .int .i64 p, .int .i64 n, .int .i64 i]).alloc (.cells #[.int .i64 0, .int .i64 cl, .int .i64 n, .int .i64 tm, .int .i64 s, .int .i64 a, .int .i64 p, .int .i64 q, .int .i64 i] 68)
  have h9 := Blk.new (((w3.alloc (.cells #[.bool false, .bool false, .bool false, .bool false, .bool false] 81)).alloc (.cells #[.int .i64 0, .int .i64 cl, .int .i64 sq, .int .i64 tm, .int .i64 s, .int .i64 a, .int .i64 p, .int .i64 q, .int .i64 n] 68)).alloc (.cells #[.int .i64 0, .int .i64 cl, .int .i64 sq, .int .i64 tm, .int .i64 s, .int .i64 a, .int .i64 p, .int .i64 n, .int .i64 i] 68)) 68 #[.int .i64 0, .int .i64 cl, .int .i64 n, .int .i64 tm, .int .i64 s, .int .i64 a, .int .i64 p, .int .i64 q, .int .i64 i]
  simp only [World.size_alloc] at h8 h9
  repeat' ((fail_if_success (with_reducible refine stop_append rfl ?_)); (fail_if_success (with_reducible refine stop_copy rfl ?_)); first | go_values | go_skip | go_guarded | go_step | go_upon | (simp only []; go_at_K))
  refine (Ma _).mono ?_
  rintro ev w4 ⟨rfl, hu4⟩
  have k8 := h8.upd hu4 (by simp)
  have k9 := h9.upd hu4 (by simp)
  have U4 := hU.trans hu4
  clear b0 b1 b2 b3 b4 b5 b6 b7 b8 hB3 U3 h8 h9 hU hu4 Ma
  have b0 := k8.cell 0
  have b1 := k8.cell 1
  have b2 := k8.cell 2
  have b3 := k8.cell 3
  have b4 := k8.cell 4
  have b5 := k8.cell 5
  have b6 := k8.cell 6
  have b7 := k8.cell 7
  have b8 := k8.cell 8
  simp at b0 b1 b2 b3 b4 b5 b6 b7 b8
  repeat' ((fail_if_success (with_reducible refine stop_append rfl ?_)); (fail_if_success (with_reducible refine stop_copy rfl ?_)); first | go_values | go_skip | go_guarded | go_step | go_upon | (simp only []; go_at_K))
  refine (Mb _).mono ?_
  rintro ev w5 ⟨rfl, hu5⟩
  have k9 := k9.upd hu5 (by simp)
  have U5 := U4.trans hu5
  clear b0 b1 b2 b3 b4 b5 b6 b7 b8 k8 U4 hu5 Mb
  have b0 := k9.cell 0
  have b1 := k9.cell 1
  have b2 := k9.cell 2
  have b3 := k9.cell 3
  have b4 := k9.cell 4
  have b5 := k9.cell 5
  have b6 := k9.cell 6
  have b7 := k9.cell 7
  have b8 := k9.cell 8
  simp at b0 b1 b2 b3 b4 b5 b6 b7 b8
  repeat' ((fail_if_success (with_reducible refine stop_append rfl ?_)); (fail_if_success (with_reducible refine stop_copy rfl ?_)); first | go_values | go_skip | go_guarded | go_step | go_upon | (simp only []; go_at_K))
  refine (Md _).mono ?_
  rintro ev w6 ⟨rfl, hu6⟩
  repeat' ((fail_if_success (with_reducible refine stop_append rfl ?_)); (fail_if_success (with_reducible refine stop_copy rfl ?_)); first | go_values | go_skip | go_guarded | go_step | go_upon | (simp only []; go_at_K))
  go_ret
  exact ⟨rfl, U5.trans hu6⟩

set_option maxRecDepth 100000 in
set_option maxHeartbeats 4000000 in
theorem cf_1_neg (w : World) (hG : GoodG w) (cl sq tm s a p q i n : Int) (hn : n < 0) (hm : (Cm.mk 1 cl sq tm s a p q i).may = true) :
    Calls Tryd.prog 13 #[.agg #[.int .i64 1, .int .i64 cl, .int .i64 sq, .int .i64 tm, .int .i64 s, .int .i64 a, .int .i64 p, .int .i64 q, .int .i64 i], .int .i64 n] w fun ev w' => ev = .returned (.bool true) ∧ Upd [] [] w w' := by
  have M := cmdMay (Cm.mk 1 cl sq tm s a p q i)
  rw [err_ok hm] at M
  have Ma := cmdMay (Cm.mk 1 cl sq tm s a p q n)
  rw [err_bad (c := Cm.mk 1 cl sq tm s a p q n) (Bool.eq_false_iff.2 fun h => by simp [Cm.may, flds, wi] at hm h <;> omega)] at Ma
  have Mb := cmdMay (Cm.mk 1 cl sq tm s a p n i)
  rw [err_bad (c := Cm.mk 1 cl sq tm s a p n i) (Bool.eq_false_iff.2 fun h => by simp [Cm.may, flds, wi] at hm h <;> omega)] at Mb
  have Md := cmdMay (Cm.mk 1 cl n tm s a p q i)
  rw [err_bad (c := Cm.mk 1 cl n tm s a p q i) (Bool.eq_false_iff.2 fun h => by simp [Cm.may, flds, wi] at hm h <;> omega)] at Md
  simp only [Cm.val] at M Ma Mb Md
  clear hm
  have d0 : decide (1 ≤ n) = false := decide_eq_false (by omega)
  have d1 : decide (n ≤ 1099511627776) = true := decide_eq_true (by omega)
  have d2 : decide (n ≤ 1073741824) = true := decide_eq_true (by omega)
  have d9 : (n == 0) = false := beq_eq_false_iff_ne.2 (by omega)
  clear hn
  go_enter Tryd.func13, Tryd.ntmps13
  repeat' ((fail_if_success (with_reducible refine stop_append rfl ?_)); (fail_if_success (with_reducible refine stop_copy rfl ?_)); first | go_values | go_skip | go_guarded | go_step | go_upon | (simp only []; go_at_K))
  refine (awake05 _ (hG.alloc _)).mono ?_
  rintro ev w1 ⟨rfl, hu1⟩
  have hB1 := (Blk.new w 68 #[.int .i64 1, .int .i64 cl, .int .i64 sq, .int .i64 tm, .int .i64 s, .int .i64 a, .int .i64 p, .int .i64 q, .int .i64 i]).upd hu1 (by simp)
  have U1 : Upd [] [] w w1 := ((Upd.refl [] w).alloc _).trans hu1
  have b0 := hB1.cell 0
  have b1 := hB1.cell 1
  have b2 := hB1.cell 2
  have b3 := hB1.cell 3
  have b4 := hB1.cell 4
  have b5 := hB1.cell 5
  have b6 := hB1.cell 6
  have b7 := hB1.cell 7
  have b8 := hB1.cell 8
  simp at b0 b1 b2 b3 b4 b5 b6 b7 b8
  clear hu1
  repeat' ((fail_if_success (with_reducible refine stop_append rfl ?_)); (fail_if_success (with_reducible refine stop_copy rfl ?_)); first | go_values | go_skip | go_guarded | go_step | go_upon | (simp only []; go_at_K))
  refine (M _).mono ?_
  rintro ev w2 ⟨rfl, hu2⟩
  have hB2 := hB1.upd hu2 (by simp)
  have U2 := U1.trans hu2
  clear b0 b1 b2 b3 b4 b5 b6 b7 b8 hB1 U1 hu2 M
  have b0 := hB2.cell 0
  have b1 := hB2.cell 1
  have b2 := hB2.cell 2
  have b3 := hB2.cell 3
  have b4 := hB2.cell 4
  have b5 := hB2.cell 5
  have b6 := hB2.cell 6
  have b7 := hB2.cell 7
  have b8 := hB2.cell 8
  simp at b0 b1 b2 b3 b4 b5 b6 b7 b8
  repeat' ((fail_if_success (with_reducible refine stop_append rfl ?_)); (fail_if_success (with_reducible refine stop_copy rfl ?_)); first | go_values | go_skip | go_guarded | go_step | go_upon | (simp only []; go_at_K))
  refine (uses_k1 _).mono ?_
  rintro ev w3 ⟨rfl, hu3⟩
  have hB3 := hB2.upd hu3 (by simp)
  have U3 := U2.trans hu3
  have hlt := hB3.lt
  have hlt1 : w.heap.size < w3.heap.size + 1 := by omega
  have hlt2 : w.heap.size < w3.heap.size + 2 := by omega
  have hlt3 : w.heap.size < w3.heap.size + 1 + 1 := by omega
  clear b0 b1 b2 b3 b4 b5 b6 b7 b8 hB2 U2 hu3
  have b0 := hB3.cell 0
  have b1 := hB3.cell 1
  have b2 := hB3.cell 2
  have b3 := hB3.cell 3
  have b4 := hB3.cell 4
  have b5 := hB3.cell 5
  have b6 := hB3.cell 6
  have b7 := hB3.cell 7
  have b8 := hB3.cell 8
  simp at b0 b1 b2 b3 b4 b5 b6 b7 b8
  have hU : Upd [] [] w ((((w3.alloc (.cells #[.bool true, .bool false, .bool true, .bool true, .bool false] 81)).alloc (.cells #[.int .i64 1, .int .i64 cl, .int .i64 sq, .int .i64 tm, .int .i64 s, .int .i64 a, .int .i64 p, .int .i64 q, .int .i64 n] 68)).alloc (.cells #[.int .i64 1, .int .i64 cl, .int .i64 sq, .int .i64 tm, .int .i64 s, .int .i64 a, .int .i64 p, .int .i64 n, .int .i64 i] 68)).alloc (.cells #[.int .i64 1, .int .i64 cl, .int .i64 n, .int .i64 tm, .int .i64 s, .int .i64 a, .int .i64 p, .int .i64 q, .int .i64 i] 68)) := (((U3.alloc _).alloc _).alloc _).alloc _
  have h8 := (Blk.new ((w3.alloc (.cells #[.bool true, .bool false, .bool true, .bool true, .bool false] 81)).alloc (.cells #[.int .i64 1, .int .i64 cl, .int .i64 sq, .int .i64 tm, .int .i64 s, .int .i64 a, .int .i64 p, .int .i64 q, .int .i64 n] 68)) 68 #[.int .i64 1, .int .i64 cl, .int .i64 sq, .int .i64 tm, .int .i64 s, .int .i64 a, .int .i64 p, .int .i64 n, .int .i64 i]).alloc (.cells #[.int .i64 1, .int .i64 cl, .int .i64 n, .int .i64 tm, .int .i64 s, .int .i64 a, .int .i64 p, .int .i64 q, .int .i64 i] 68)
  have h9 := Blk.new (((w3.alloc (.cells #[.bool true, .bool false, .bool true, .bool true, .bool false] 81)).alloc (.cells #[.int .i64 1, .int .i64 cl, .int .i64 sq, .int .i64 tm, .int .i64 s, .int .i64 a, .int .i64 p, .int .i64 q, .int .i64 n] 68)).alloc (.cells #[.int .i64 1, .int .i64 cl, .int .i64 sq, .int .i64 tm, .int .i64 s, .int .i64 a, .int .i64 p, .int .i64 n, .int .i64 i] 68)) 68 #[.int .i64 1, .int .i64 cl, .int .i64 n, .int .i64 tm, .int .i64 s, .int .i64 a, .int .i64 p, .int .i64 q, .int .i64 i]
  simp only [World.size_alloc] at h8 h9
  repeat' ((fail_if_success (with_reducible refine stop_append rfl ?_)); (fail_if_success (with_reducible refine stop_copy rfl ?_)); first | go_values | go_skip | go_guarded | go_step | go_upon | (simp only []; go_at_K))
  refine (Ma _).mono ?_
  rintro ev w4 ⟨rfl, hu4⟩
  have k8 := h8.upd hu4 (by simp)
  have k9 := h9.upd hu4 (by simp)
  have U4 := hU.trans hu4
  clear b0 b1 b2 b3 b4 b5 b6 b7 b8 hB3 U3 h8 h9 hU hu4 Ma
  have b0 := k8.cell 0
  have b1 := k8.cell 1
  have b2 := k8.cell 2
  have b3 := k8.cell 3
  have b4 := k8.cell 4
  have b5 := k8.cell 5
  have b6 := k8.cell 6
  have b7 := k8.cell 7
  have b8 := k8.cell 8
  simp at b0 b1 b2 b3 b4 b5 b6 b7 b8
  repeat' ((fail_if_success (with_reducible refine stop_append rfl ?_)); (fail_if_success (with_reducible refine stop_copy rfl ?_)); first | go_values | go_skip | go_guarded | go_step | go_upon | (simp only []; go_at_K))
  refine (Mb _).mono ?_
  rintro ev w5 ⟨rfl, hu5⟩
  have k9 := k9.upd hu5 (by simp)
  have U5 := U4.trans hu5
  clear b0 b1 b2 b3 b4 b5 b6 b7 b8 k8 U4 hu5 Mb
  have b0 := k9.cell 0
  have b1 := k9.cell 1
  have b2 := k9.cell 2
  have b3 := k9.cell 3
  have b4 := k9.cell 4
  have b5 := k9.cell 5
  have b6 := k9.cell 6
  have b7 := k9.cell 7
  have b8 := k9.cell 8
  simp at b0 b1 b2 b3 b4 b5 b6 b7 b8
  repeat' ((fail_if_success (with_reducible refine stop_append rfl ?_)); (fail_if_success (with_reducible refine stop_copy rfl ?_)); first | go_values | go_skip | go_guarded | go_step | go_upon | (simp only []; go_at_K))
  refine (Md _).mono ?_
  rintro ev w6 ⟨rfl, hu6⟩
  repeat' ((fail_if_success (with_reducible refine stop_append rfl ?_)); (fail_if_success (with_reducible refine stop_copy rfl ?_)); first | go_values | go_skip | go_guarded | go_step | go_upon | (simp only []; go_at_K))
  go_ret
  exact ⟨rfl, U5.trans hu6⟩

set_option maxRecDepth 100000 in
set_option maxHeartbeats 4000000 in
theorem cf_1_zero (w : World) (hG : GoodG w) (cl sq tm s a p q i : Int) (hm : (Cm.mk 1 cl sq tm s a p q i).may = true) :
    Calls Tryd.prog 13 #[.agg #[.int .i64 1, .int .i64 cl, .int .i64 sq, .int .i64 tm, .int .i64 s, .int .i64 a, .int .i64 p, .int .i64 q, .int .i64 i], .int .i64 0] w fun ev w' => ev = .returned (.bool true) ∧ Upd [] [] w w' := by
  have M := cmdMay (Cm.mk 1 cl sq tm s a p q i)
  rw [err_ok hm] at M
  have Ma := cmdMay (Cm.mk 1 cl sq tm s a p q 0)
  rw [err_ok (c := Cm.mk 1 cl sq tm s a p q 0) (by simp [Cm.may, flds, wi] at hm ⊢ <;> omega)] at Ma
  have Mb := cmdMay (Cm.mk 1 cl sq tm s a p 0 i)
  rw [err_bad (c := Cm.mk 1 cl sq tm s a p 0 i) (Bool.eq_false_iff.2 fun h => by simp [Cm.may, flds, wi] at hm h <;> omega)] at Mb
  have Md := cmdMay (Cm.mk 1 cl 0 tm s a p q i)
  rw [err_bad (c := Cm.mk 1 cl 0 tm s a p q i) (Bool.eq_false_iff.2 fun h => by simp [Cm.may, flds, wi] at hm h <;> omega)] at Md
  simp only [Cm.val] at M Ma Mb Md
  clear hm
  go_enter Tryd.func13, Tryd.ntmps13
  repeat' ((fail_if_success (with_reducible refine stop_append rfl ?_)); (fail_if_success (with_reducible refine stop_copy rfl ?_)); first | go_values | go_skip | go_guarded | go_step | go_upon | (simp only []; go_at_K))
  refine (awake05 _ (hG.alloc _)).mono ?_
  rintro ev w1 ⟨rfl, hu1⟩
  have hB1 := (Blk.new w 68 #[.int .i64 1, .int .i64 cl, .int .i64 sq, .int .i64 tm, .int .i64 s, .int .i64 a, .int .i64 p, .int .i64 q, .int .i64 i]).upd hu1 (by simp)
  have U1 : Upd [] [] w w1 := ((Upd.refl [] w).alloc _).trans hu1
  have b0 := hB1.cell 0
  have b1 := hB1.cell 1
  have b2 := hB1.cell 2
  have b3 := hB1.cell 3
  have b4 := hB1.cell 4
  have b5 := hB1.cell 5
  have b6 := hB1.cell 6
  have b7 := hB1.cell 7
  have b8 := hB1.cell 8
  simp at b0 b1 b2 b3 b4 b5 b6 b7 b8
  clear hu1
  repeat' ((fail_if_success (with_reducible refine stop_append rfl ?_)); (fail_if_success (with_reducible refine stop_copy rfl ?_)); first | go_values | go_skip | go_guarded | go_step | go_upon | (simp only []; go_at_K))
  refine (M _).mono ?_
  rintro ev w2 ⟨rfl, hu2⟩
  have hB2 := hB1.upd hu2 (by simp)
  have U2 := U1.trans hu2
  clear b0 b1 b2 b3 b4 b5 b6 b7 b8 hB1 U1 hu2 M
  have b0 := hB2.cell 0
  have b1 := hB2.cell 1
  have b2 := hB2.cell 2
  have b3 := hB2.cell 3
  have b4 := hB2.cell 4
  have b5 := hB2.cell 5
  have b6 := hB2.cell 6
  have b7 := hB2.cell 7
  have b8 := hB2.cell 8
  simp at b0 b1 b2 b3 b4 b5 b6 b7 b8
  repeat' ((fail_if_success (with_reducible refine stop_append rfl ?_)); (fail_if_success (with_reducible refine stop_copy rfl ?_)); first | go_values | go_skip | go_guarded | go_step | go_upon | (simp only []; go_at_K))
  refine (uses_k1 _).mono ?_
  rintro ev w3 ⟨rfl, hu3⟩
  have hB3 := hB2.upd hu3 (by simp)
  have U3 := U2.trans hu3
  have hlt := hB3.lt
  have hlt1 : w.heap.size < w3.heap.size + 1 := by omega
  have hlt2 : w.heap.size < w3.heap.size + 2 := by omega
  have hlt3 : w.heap.size < w3.heap.size + 1 + 1 := by omega
  clear b0 b1 b2 b3 b4 b5 b6 b7 b8 hB2 U2 hu3
  have b0 := hB3.cell 0
  have b1 := hB3.cell 1
  have b2 := hB3.cell 2
  have b3 := hB3.cell 3
  have b4 := hB3.cell 4
  have b5 := hB3.cell 5
  have b6 := hB3.cell 6
  have b7 := hB3.cell 7
  have b8 := hB3.cell 8
  simp at b0 b1 b2 b3 b4 b5 b6 b7 b8
  have hU : Upd [] [] w ((((w3.alloc (.cells #[.bool true, .bool false, .bool true, .bool true, .bool false] 81)).alloc (.cells #[.int .i64 1, .int .i64 cl, .int .i64 sq, .int .i64 tm, .int .i64 s, .int .i64 a, .int .i64 p, .int .i64 q, .int .i64 0] 68)).alloc (.cells #[.int .i64 1, .int .i64 cl, .int .i64 sq, .int .i64 tm, .int .i64 s, .int .i64 a, .int .i64 p, .int .i64 0, .int .i64 i] 68)).alloc (.cells #[.int .i64 1, .int .i64 cl, .int .i64 0, .int .i64 tm, .int .i64 s, .int .i64 a, .int .i64 p, .int .i64 q, .int .i64 i] 68)) := (((U3.alloc _).alloc _).alloc _).alloc _
  have h8 := (Blk.new ((w3.alloc (.cells #[.bool true, .bool false, .bool true, .bool true, .bool false] 81)).alloc (.cells #[.int .i64 1, .int .i64 cl, .int .i64 sq, .int .i64 tm, .int .i64 s, .int .i64 a, .int .i64 p, .int .i64 q, .int .i64 0] 68)) 68 #[.int .i64 1, .int .i64 cl, .int .i64 sq, .int .i64 tm, .int .i64 s, .int .i64 a, .int .i64 p, .int .i64 0, .int .i64 i]).alloc (.cells #[.int .i64 1, .int .i64 cl, .int .i64 0, .int .i64 tm, .int .i64 s, .int .i64 a, .int .i64 p, .int .i64 q, .int .i64 i] 68)
  have h9 := Blk.new (((w3.alloc (.cells #[.bool true, .bool false, .bool true, .bool true, .bool false] 81)).alloc (.cells #[.int .i64 1, .int .i64 cl, .int .i64 sq, .int .i64 tm, .int .i64 s, .int .i64 a, .int .i64 p, .int .i64 q, .int .i64 0] 68)).alloc (.cells #[.int .i64 1, .int .i64 cl, .int .i64 sq, .int .i64 tm, .int .i64 s, .int .i64 a, .int .i64 p, .int .i64 0, .int .i64 i] 68)) 68 #[.int .i64 1, .int .i64 cl, .int .i64 0, .int .i64 tm, .int .i64 s, .int .i64 a, .int .i64 p, .int .i64 q, .int .i64 i]
  simp only [World.size_alloc] at h8 h9
  repeat' ((fail_if_success (with_reducible refine stop_append rfl ?_)); (fail_if_success (with_reducible refine stop_copy rfl ?_)); first | go_values | go_skip | go_guarded | go_step | go_upon | (simp only []; go_at_K))
  refine (Ma _).mono ?_
  rintro ev w4 ⟨rfl, hu4⟩
  have k8 := h8.upd hu4 (by simp)
  have k9 := h9.upd hu4 (by simp)
  have U4 := hU.trans hu4
  clear b0 b1 b2 b3 b4 b5 b6 b7 b8 hB3 U3 h8 h9 hU hu4 Ma
  have b0 := k8.cell 0
  have b1 := k8.cell 1
  have b2 := k8.cell 2
  have b3 := k8.cell 3
  have b4 := k8.cell 4
  have b5 := k8.cell 5
  have b6 := k8.cell 6
  have b7 := k8.cell 7
  have b8 := k8.cell 8
  simp at b0 b1 b2 b3 b4 b5 b6 b7 b8
  repeat' ((fail_if_success (with_reducible refine stop_append rfl ?_)); (fail_if_success (with_reducible refine stop_copy rfl ?_)); first | go_values | go_skip | go_guarded | go_step | go_upon | (simp only []; go_at_K))
  refine (Mb _).mono ?_
  rintro ev w5 ⟨rfl, hu5⟩
  have k9 := k9.upd hu5 (by simp)
  have U5 := U4.trans hu5
  clear b0 b1 b2 b3 b4 b5 b6 b7 b8 k8 U4 hu5 Mb
  have b0 := k9.cell 0
  have b1 := k9.cell 1
  have b2 := k9.cell 2
  have b3 := k9.cell 3
  have b4 := k9.cell 4
  have b5 := k9.cell 5
  have b6 := k9.cell 6
  have b7 := k9.cell 7
  have b8 := k9.cell 8
  simp at b0 b1 b2 b3 b4 b5 b6 b7 b8
  repeat' ((fail_if_success (with_reducible refine stop_append rfl ?_)); (fail_if_success (with_reducible refine stop_copy rfl ?_)); first | go_values | go_skip | go_guarded | go_step | go_upon | (simp only []; go_at_K))
  refine (Md _).mono ?_
  rintro ev w6 ⟨rfl, hu6⟩
  repeat' ((fail_if_success (with_reducible refine stop_append rfl ?_)); (fail_if_success (with_reducible refine stop_copy rfl ?_)); first | go_values | go_skip | go_guarded | go_step | go_upon | (simp only []; go_at_K))
  go_ret
  exact ⟨rfl, U5.trans hu6⟩

set_option maxRecDepth 100000 in
set_option maxHeartbeats 4000000 in
theorem cf_1_low (w : World) (hG : GoodG w) (cl sq tm s a p q i n : Int) (hn : 1 ≤ n ∧ n ≤ 1073741824) (hm : (Cm.mk 1 cl sq tm s a p q i).may = true) :
    Calls Tryd.prog 13 #[.agg #[.int .i64 1, .int .i64 cl, .int .i64 sq, .int .i64 tm, .int .i64 s, .int .i64 a, .int .i64 p, .int .i64 q, .int .i64 i], .int .i64 n] w fun ev w' => ev = .returned (.bool true) ∧ Upd [] [] w w' := by
  have M := cmdMay (Cm.mk 1 cl sq tm s a p q i)
  rw [err_ok hm] at M
  have Ma := cmdMay (Cm.mk 1 cl sq tm s a p q n)
  rw [err_bad (c := Cm.mk 1 cl sq tm s a p q n) (Bool.eq_false_iff.2 fun h => by simp [Cm.may, flds, wi] at hm h <;> omega)] at Ma
  have Mb := cmdMay (Cm.mk 1 cl sq tm s a p n i)
  rw [err_ok (c := Cm.mk 1 cl sq tm s a p n i) (by simp [Cm.may, flds, wi] at hm ⊢ <;> omega)] at Mb
  have Md := cmdMay (Cm.mk 1 cl n tm s a p q i)
  rw [err_ok (c := Cm.mk 1 cl n tm s a p q i) (by simp [Cm.may, flds, wi] at hm ⊢ <;> omega)] at Md
  simp only [Cm.val] at M Ma Mb Md
  clear hm
  have d0 : decide (1 ≤ n) = true := decide_eq_true (by omega)
  have d1 : decide (n ≤ 1099511627776) = true := decide_eq_true (by omega)
  have d2 : decide (n ≤ 1073741824) = true := decide_eq_true (by omega)
  have d9 : (n == 0) = false := beq_eq_false_iff_ne.2 (by omega)
  clear hn
  go_enter Tryd.func13, Tryd.ntmps13
  repeat' ((fail_if_success (with_reducible refine stop_append rfl ?_)); (fail_if_success (with_reducible refine stop_copy rfl ?_)); first | go_values | go_skip | go_guarded | go_step | go_upon | (simp only []; go_at_K))
  refine (awake05 _ (hG.alloc _)).mono ?_
  rintro ev w1 ⟨rfl, hu1⟩
  have hB1 := (Blk.new w 68 #[.int .i64 1, .int .i64 cl, .int .i64 sq, .int .i64 tm, .int .i64 s, .int .i64 a, .int .i64 p, .int .i64 q, .int .i64 i]).upd hu1 (by simp)
  have U1 : Upd [] [] w w1 := ((Upd.refl [] w).alloc _).trans hu1
  have b0 := hB1.cell 0
  have b1 := hB1.cell 1
  have b2 := hB1.cell 2
  have b3 := hB1.cell 3
  have b4 := hB1.cell 4
  have b5 := hB1.cell 5
  have b6 := hB1.cell 6
  have b7 := hB1.cell 7
  have b8 := hB1.cell 8
  simp at b0 b1 b2 b3 b4 b5 b6 b7 b8
  clear hu1
  repeat' ((fail_if_success (with_reducible refine stop_append rfl ?_)); (fail_if_success (with_reducible refine stop_copy rfl ?_)); first | go_values | go_skip | go_guarded | go_step | go_upon | (simp only []; go_at_K))
  refine (M _).mono ?_
  rintro ev w2 ⟨rfl, hu2⟩
  have hB2 := hB1.upd hu2 (by simp)
  have U2 := U1.trans hu2
  clear b0 b1 b2 b3 b4 b5 b6 b7 b8 hB1 U1 hu2 M
  have b0 := hB2.cell 0
  have b1 := hB2.cell 1
  have b2 := hB2.cell 2
  have b3 := hB2.cell 3
  have b4 := hB2.cell 4
  have b5 := hB2.cell 5
  have b6 := hB2.cell 6
  have b7 := hB2.cell 7
  have b8 := hB2.cell 8
  simp at b0 b1 b2 b3 b4 b5 b6 b7 b8
  repeat' ((fail_if_success (with_reducible refine stop_append rfl ?_)); (fail_if_success (with_reducible refine stop_copy rfl ?_)); first | go_values | go_skip | go_guarded | go_step | go_upon | (simp only []; go_at_K))
  refine (uses_k1 _).mono ?_
  rintro ev w3 ⟨rfl, hu3⟩
  have hB3 := hB2.upd hu3 (by simp)
  have U3 := U2.trans hu3
  have hlt := hB3.lt
  have hlt1 : w.heap.size < w3.heap.size + 1 := by omega
  have hlt2 : w.heap.size < w3.heap.size + 2 := by omega
  have hlt3 : w.heap.size < w3.heap.size + 1 + 1 := by omega
  clear b0 b1 b2 b3 b4 b5 b6 b7 b8 hB2 U2 hu3
  have b0 := hB3.cell 0
  have b1 := hB3.cell 1
  have b2 := hB3.cell 2
  have b3 := hB3.cell 3
  have b4 := hB3.cell 4
  have b5 := hB3.cell 5
  have b6 := hB3.cell 6
  have b7 := hB3.cell 7
  have b8 := hB3.cell 8
  simp at b0 b1 b2 b3 b4 b5 b6 b7 b8
  have hU : Upd [] [] w ((((w3.alloc (.cells #[.bool true, .bool false, .bool true, .bool true, .bool false] 81)).alloc (.cells #[.int .i64 1, .int .i64 cl, .int .i64 sq, .int .i64 tm, .int .i64 s, .int .i64 a, .int .i64 p, .int .i64 q, .int .i64 n] 68)).alloc (.cells #[.int .i64 1, .int .i64 cl, .int .i64 sq, .int .i64 tm, .int .i64 s, .int .i64 a, .int .i64 p, .int .i64 n, .int .i64 i] 68)).alloc (.cells #[.int .i64 1, .int .i64 cl, .int .i64 n, .int .i64 tm, .int .i64 s, .int .i64 a, .int .i64 p, .int .i64 q, .int .i64 i] 68)) := (((U3.alloc _).alloc _).alloc _).alloc _
  have h8 := (Blk.new ((w3.alloc (.cells #[.bool true, .bool false, .bool true, .bool true, .bool false] 81)).alloc (.cells #[.int .i64 1, .int .i64 cl, .int .i64 sq, .int .i64 tm, .int .i64 s, .int .i64 a, .int .i64 p, .int .i64 q, .int .i64 n] 68)) 68 #[.int .i64 1, .int .i64 cl, .int .i64 sq, .int .i64 tm, .int .i64 s, .int .i64 a, .int .i64 p, .int .i64 n, .int .i64 i]).alloc (.cells #[.int .i64 1, .int .i64 cl, .int .i64 n, .int .i64 tm, .int .i64 s, .int .i64 a, .int .i64 p, .int .i64 q, .int .i64 i] 68)
  have h9 := Blk.new (((w3.alloc (.cells #[.bool true, .bool false, .bool true, .bool true, .bool false] 81)).alloc (.cells #[.int .i64 1, .int .i64 cl, .int .i64 sq, .int .i64 tm, .int .i64 s, .int .i64 a, .int .i64 p, .int .i64 q, .int .i64 n] 68)).alloc (.cells #[.int .i64 1, .int .i64 cl, .int .i64 sq, .int .i64 tm, .int .i64 s, .int .i64 a, .int .i64 p, .int .i64 n, .int .i64 i] 68)) 68 #[.int .i64 1, .int .i64 cl, .int .i64 n, .int .i64 tm, .int .i64 s, .int .i64 a, .int .i64 p, .int .i64 q, .int .i64 i]
  simp only [World.size_alloc] at h8 h9
  repeat' ((fail_if_success (with_reducible refine stop_append rfl ?_)); (fail_if_success (with_reducible refine stop_copy rfl ?_)); first | go_values | go_skip | go_guarded | go_step | go_upon | (simp only []; go_at_K))
  refine (Ma _).mono ?_
  rintro ev w4 ⟨rfl, hu4⟩
  have k8 := h8.upd hu4 (by simp)
  have k9 := h9.upd hu4 (by simp)
  have U4 := hU.trans hu4
  clear b0 b1 b2 b3 b4 b5 b6 b7 b8 hB3 U3 h8 h9 hU hu4 Ma
  have b0 := k8.cell 0
  have b1 := k8.cell 1
  have b2 := k8.cell 2
  have b3 := k8.cell 3
  have b4 := k8.cell 4
  have b5 := k8.cell 5
  have b6 := k8.cell 6
  have b7 := k8.cell 7
  have b8 := k8.cell 8
  simp at b0 b1 b2 b3 b4 b5 b6 b7 b8
  repeat' ((fail_if_success (with_reducible refine stop_append rfl ?_)); (fail_if_success (with_reducible refine stop_copy rfl ?_)); first | go_values | go_skip | go_guarded | go_step | go_upon | (simp only []; go_at_K))
  refine (Mb _).mono ?_
  rintro ev w5 ⟨rfl, hu5⟩
  have k9 := k9.upd hu5 (by simp)
  have U5 := U4.trans hu5
  clear b0 b1 b2 b3 b4 b5 b6 b7 b8 k8 U4 hu5 Mb
  have b0 := k9.cell 0
  have b1 := k9.cell 1
  have b2 := k9.cell 2
  have b3 := k9.cell 3
  have b4 := k9.cell 4
  have b5 := k9.cell 5
  have b6 := k9.cell 6
  have b7 := k9.cell 7
  have b8 := k9.cell 8
  simp at b0 b1 b2 b3 b4 b5 b6 b7 b8
  repeat' ((fail_if_success (with_reducible refine stop_append rfl ?_)); (fail_if_success (with_reducible refine stop_copy rfl ?_)); first | go_values | go_skip | go_guarded | go_step | go_upon | (simp only []; go_at_K))
  refine (Md _).mono ?_
  rintro ev w6 ⟨rfl, hu6⟩
  repeat' ((fail_if_success (with_reducible refine stop_append rfl ?_)); (fail_if_success (with_reducible refine stop_copy rfl ?_)); first | go_values | go_skip | go_guarded | go_step | go_upon | (simp only []; go_at_K))
  go_ret
  exact ⟨rfl, U5.trans hu6⟩

set_option maxRecDepth 100000 in
set_option maxHeartbeats 4000000 in
theorem cf_1_mid (w : World) (hG : GoodG w) (cl sq tm s a p q i n : Int) (hn : 1073741824 < n ∧ n ≤ 1099511627776) (hm : (Cm.mk 1 cl sq tm s a p q i).may = true) :
    Calls Tryd.prog 13 #[.agg #[.int .i64 1, .int .i64 cl, .int .i64 sq, .int .i64 tm, .int .i64 s, .int .i64 a, .int .i64 p, .int .i64 q, .int .i64 i], .int .i64 n] w fun ev w' => ev = .returned (.bool true) ∧ Upd [] [] w w' := by
  have M := cmdMay (Cm.mk 1 cl sq tm s a p q i)
  rw [err_ok hm] at M
  have Ma := cmdMay (Cm.mk 1 cl sq tm s a p q n)
  rw [err_bad (c := Cm.mk 1 cl sq tm s a p q n) (Bool.eq_false_iff.2 fun h => by simp [Cm.may, flds, wi] at hm h <;> omega)] at Ma
  have Mb := cmdMay (Cm.mk 1 cl sq tm s a p n i)
  rw [err_bad (c := Cm.mk 1 cl sq tm s a p n i) (Bool.eq_false_iff.2 fun h => by simp [Cm.may, flds, wi] at hm h <;> omega)] at Mb
  have Md := cmdMay (Cm.mk 1 cl n tm s a p q i)
  rw [err_ok (c := Cm.mk 1 cl n tm s a p q i) (by simp [Cm.may, flds, wi] at hm ⊢ <;> omega)] at Md
  simp only [Cm.val] at M Ma Mb Md
  clear hm
  have d0 : decide (1 ≤ n) = true := decide_eq_true (by omega)
  have d1 : decide (n ≤ 1099511627776) = true := decide_eq_true (by omega)
  have d2 : decide (n ≤ 1073741824) = false := decide_eq_false (by omega)
  have d9 : (n == 0) = false := beq_eq_false_iff_ne.2 (by omega)
  clear hn
  go_enter Tryd.func13, Tryd.ntmps13
  repeat' ((fail_if_success (with_reducible refine stop_append rfl ?_)); (fail_if_success (with_reducible refine stop_copy rfl ?_)); first | go_values | go_skip | go_guarded | go_step | go_upon | (simp only []; go_at_K))
  refine (awake05 _ (hG.alloc _)).mono ?_
  rintro ev w1 ⟨rfl, hu1⟩
  have hB1 := (Blk.new w 68 #[.int .i64 1, .int .i64 cl, .int .i64 sq, .int .i64 tm, .int .i64 s, .int .i64 a, .int .i64 p, .int .i64 q, .int .i64 i]).upd hu1 (by simp)
  have U1 : Upd [] [] w w1 := ((Upd.refl [] w).alloc _).trans hu1
  have b0 := hB1.cell 0
  have b1 := hB1.cell 1
  have b2 := hB1.cell 2
  have b3 := hB1.cell 3
  have b4 := hB1.cell 4
  have b5 := hB1.cell 5
  have b6 := hB1.cell 6
  have b7 := hB1.cell 7
  have b8 := hB1.cell 8
  simp at b0 b1 b2 b3 b4 b5 b6 b7 b8
  clear hu1
  repeat' ((fail_if_success (with_reducible refine stop_append rfl ?_)); (fail_if_success (with_reducible refine stop_copy rfl ?_)); first | go_values | go_skip | go_guarded | go_step | go_upon | (simp only []; go_at_K))
  refine (M _).mono ?_
  rintro ev w2 ⟨rfl, hu2⟩
  have hB2 := hB1.upd hu2 (by simp)
  have U2 := U1.trans hu2
  clear b0 b1 b2 b3 b4 b5 b6 b7 b8 hB1 U1 hu2 M
  have b0 := hB2.cell 0
  have b1 := hB2.cell 1
  have b2 := hB2.cell 2
  have b3 := hB2.cell 3
  have b4 := hB2.cell 4
  have b5 := hB2.cell 5
  have b6 := hB2.cell 6
  have b7 := hB2.cell 7
  have b8 := hB2.cell 8
  simp at b0 b1 b2 b3 b4 b5 b6 b7 b8
  repeat' ((fail_if_success (with_reducible refine stop_append rfl ?_)); (fail_if_success (with_reducible refine stop_copy rfl ?_)); first | go_values | go_skip | go_guarded | go_step | go_upon | (simp only []; go_at_K))
  refine (uses_k1 _).mono ?_
  rintro ev w3 ⟨rfl, hu3⟩
  have hB3 := hB2.upd hu3 (by simp)
  have U3 := U2.trans hu3
  have hlt := hB3.lt
  have hlt1 : w.heap.size < w3.heap.size + 1 := by omega
  have hlt2 : w.heap.size < w3.heap.size + 2 := by omega
  have hlt3 : w.heap.size < w3.heap.size + 1 + 1 := by omega
  clear b0 b1 b2 b3 b4 b5 b6 b7 b8 hB2 U2 hu3
  have b0 := hB3.cell 0
  have b1 := hB3.cell 1
  have b2 := hB3.cell 2
  have b3 := hB3.cell 3
  have b4 := hB3.cell 4
  have b5 := hB3.cell 5
  have b6 := hB3.cell 6
  have b7 := hB3.cell 7
  have b8 := hB3.cell 8
  simp at b0 b1 b2 b3 b4 b5 b6 b7 b8
  have hU : Upd [] [] w ((((w3.alloc (.cells #[.bool true, .bool false, .bool true, .bool true, .bool false] 81)).alloc (.cells #[.int .i64 1, .int .i64 cl, .int .i64 sq, .int .i64 tm, .int .i64 s, .int .i64 a, .int .i64 p, .int .i64 q, .int .i64 n] 68)).alloc (.cells #[.int .i64 1, .int .i64 cl, .int .i64 sq, .int .i64 tm, .int .i64 s, .int .i64 a, .int .i64 p, .int .i64 n, .int .i64 i] 68)).alloc (.cells #[.int .i64 1, .int .i64 cl, .int .i64 n, .int .i64 tm, .int .i64 s, .int .i64 a, .int .i64 p, .int .i64 q, .int .i64 i] 68)) := (((U3.alloc _).alloc _).alloc _).alloc _
  have h8 := (Blk.new ((w3.alloc (.cells #[.bool true, .bool false, .bool true, .bool true, .bool false] 81)).alloc (.cells #[.int .i64 1, .int .i64 cl, .int .i64 sq, .int .i64 tm, .int .i64 s, .int .i64 a, .int .i64 p, .int .i64 q, .int .i64 n] 68)) 68 #[.int .i64 1, .int .i64 cl, .int .i64 sq, .int .i64 tm, .int .i64 s, .int .i64 a, .int .i64 p, .int .i64 n, .int .i64 i]).alloc (.cells #[.int .i64 1, .int .i64 cl, .int .i64 n, .int .i64 tm, .int .i64 s, .int .i64 a, .int .i64 p, .int .i64 q, .int .i64 i] 68)
  have h9 := Blk.new (((w3.alloc (.cells #[.bool true, .bool false, .bool true, .bool true, .bool false] 81)).alloc (.cells #[.int .i64 1, .int .i64 cl, .int .i64 sq, .int .i64 tm, .int .i64 s, .int .i64 a, .int .i64 p, .int .i64 q, .int .i64 n] 68)).alloc (.cells #[.int .i64 1, .int .i64 cl, .int .i64 sq, .int .i64 tm, .int .i64 s, .int .i64 a, .int .i64 p, .int .i64 n, .int .i64 i] 68)) 68 #[.int .i64 1, .int .i64 cl, .int .i64 n, .int .i64 tm, .int .i64 s, .int .i64 a, .int .i64 p, .int .i64 q, .int .i64 i]
  simp only [World.size_alloc] at h8 h9
  repeat' ((fail_if_success (with_reducible refine stop_append rfl ?_)); (fail_if_success (with_reducible refine stop_copy rfl ?_)); first | go_values | go_skip | go_guarded | go_step | go_upon | (simp only []; go_at_K))
  refine (Ma _).mono ?_
  rintro ev w4 ⟨rfl, hu4⟩
  have k8 := h8.upd hu4 (by simp)
  have k9 := h9.upd hu4 (by simp)
  have U4 := hU.trans hu4
  clear b0 b1 b2 b3 b4 b5 b6 b7 b8 hB3 U3 h8 h9 hU hu4 Ma
  have b0 := k8.cell 0
  have b1 := k8.cell 1
  have b2 := k8.cell 2
  have b3 := k8.cell 3
  have b4 := k8.cell 4
  have b5 := k8.cell 5
  have b6 := k8.cell 6
  have b7 := k8.cell 7
  have b8 := k8.cell 8
  simp at b0 b1 b2 b3 b4 b5 b6 b7 b8
  repeat' ((fail_if_success (with_reducible refine stop_append rfl ?_)); (fail_if_success (with_reducible refine stop_copy rfl ?_)); first | go_values | go_skip | go_guarded | go_step | go_upon | (simp only []; go_at_K))
  refine (Mb _).mono ?_
  rintro ev w5 ⟨rfl, hu5⟩
  have k9 := k9.upd hu5 (by simp)
  have U5 := U4.trans hu5
  clear b0 b1 b2 b3 b4 b5 b6 b7 b8 k8 U4 hu5 Mb
  have b0 := k9.cell 0
  have b1 := k9.cell 1
  have b2 := k9.cell 2
  have b3 := k9.cell 3
  have b4 := k9.cell 4
  have b5 := k9.cell 5
  have b6 := k9.cell 6
  have b7 := k9.cell 7
  have b8 := k9.cell 8
  simp at b0 b1 b2 b3 b4 b5 b6 b7 b8
  repeat' ((fail_if_success (with_reducible refine stop_append rfl ?_)); (fail_if_success (with_reducible refine stop_copy rfl ?_)); first | go_values | go_skip | go_guarded | go_step | go_upon | (simp only []; go_at_K))
  refine (Md _).mono ?_
  rintro ev w6 ⟨rfl, hu6⟩
  repeat' ((fail_if_success (with_reducible refine stop_append rfl ?_)); (fail_if_success (with_reducible refine stop_copy rfl ?_)); first | go_values | go_skip | go_guarded | go_step | go_upon | (simp only []; go_at_K))
  go_ret
  exact ⟨rfl, U5.trans hu6⟩

set_option maxRecDepth 100000 in
set_option maxHeartbeats 4000000 in
theorem cf_1_high (w : World) (hG : GoodG w) (cl sq tm s a p q i n : Int) (hn : 1099511627776 < n) (hm : (Cm.mk 1 cl sq tm s a p q i).may = true) :
    Calls Tryd.prog 13 #[.agg #[.int .i64 1, .int .i64 cl, .int .i64 sq, .int .i64 tm, .int .i64 s, .int .i64 a, .int .i64 p, .int .i64 q, .int .i64 i], .int .i64 n] w fun ev w' => ev = .returned (.bool true) ∧ Upd [] [] w w' := by
  have M := cmdMay (Cm.mk 1 cl sq tm s a p q i)
  rw [err_ok hm] at M
  have Ma := cmdMay (Cm.mk 1 cl sq tm s a p q n)
  rw [err_bad (c := Cm.mk 1 cl sq tm s a p q n) (Bool.eq_false_iff.2 fun h => by simp [Cm.may, flds, wi] at hm h <;> omega)] at Ma
  have Mb := cmdMay (Cm.mk 1 cl sq tm s a p n i)
  rw [err_bad (c := Cm.mk 1 cl sq tm s a p n i) (Bool.eq_false_iff.2 fun h => by simp [Cm.may, flds, wi] at hm h <;> omega)] at Mb
  have Md := cmdMay (Cm.mk 1 cl n tm s a p q i)
  rw [err_bad (c := Cm.mk 1 cl n tm s a p q i) (Bool.eq_false_iff.2 fun h => by simp [Cm.may, flds, wi] at hm h <;> omega)] at Md
  simp only [Cm.val] at M Ma Mb Md
  clear hm
  have d0 : decide (1 ≤ n) = true := decide_eq_true (by omega)
  have d1 : decide (n ≤ 1099511627776) = false := decide_eq_false (by omega)
  have d2 : decide (n ≤ 1073741824) = false := decide_eq_false (by omega)
  have d9 : (n == 0) = false := beq_eq_false_iff_ne.2 (by omega)
  clear hn
  go_enter Tryd.func13, Tryd.ntmps13
  repeat' ((fail_if_success (with_reducible refine stop_append rfl ?_)); (fail_if_success (with_reducible refine stop_copy rfl ?_)); first | go_values | go_skip | go_guarded | go_step | go_upon | (simp only []; go_at_K))
  refine (awake05 _ (hG.alloc _)).mono ?_
  rintro ev w1 ⟨rfl, hu1⟩
  have hB1 := (Blk.new w 68 #[.int .i64 1, .int .i64 cl, .int .i64 sq, .int .i64 tm, .int .i64 s, .int .i64 a, .int .i64 p, .int .i64 q, .int .i64 i]).upd hu1 (by simp)
  have U1 : Upd [] [] w w1 := ((Upd.refl [] w).alloc _).trans hu1
  have b0 := hB1.cell 0
  have b1 := hB1.cell 1
  have b2 := hB1.cell 2
  have b3 := hB1.cell 3
  have b4 := hB1.cell 4
  have b5 := hB1.cell 5
  have b6 := hB1.cell 6
  have b7 := hB1.cell 7
  have b8 := hB1.cell 8
  simp at b0 b1 b2 b3 b4 b5 b6 b7 b8
  clear hu1
  repeat' ((fail_if_success (with_reducible refine stop_append rfl ?_)); (fail_if_success (with_reducible refine stop_copy rfl ?_)); first | go_values | go_skip | go_guarded | go_step | go_upon | (simp only []; go_at_K))
  refine (M _).mono ?_
  rintro ev w2 ⟨rfl, hu2⟩
  have hB2 := hB1.upd hu2 (by simp)
  have U2 := U1.trans hu2
  clear b0 b1 b2 b3 b4 b5 b6 b7 b8 hB1 U1 hu2 M
  have b0 := hB2.cell 0
  have b1 := hB2.cell 1
  have b2 := hB2.cell 2
  have b3 := hB2.cell 3
  have b4 := hB2.cell 4
  have b5 := hB2.cell 5
  have b6 := hB2.cell 6
  have b7 := hB2.cell 7
  have b8 := hB2.cell 8
  simp at b0 b1 b2 b3 b4 b5 b6 b7 b8
  repeat' ((fail_if_success (with_reducible refine stop_append rfl ?_)); (fail_if_success (with_reducible refine stop_copy rfl ?_)); first | go_values | go_skip | go_guarded | go_step | go_upon | (simp only []; go_at_K))
  refine (uses_k1 _).mono ?_
  rintro ev w3 ⟨rfl, hu3⟩
  have hB3 := hB2.upd hu3 (by simp)
  have U3 := U2.trans hu3
  have hlt := hB3.lt
  have hlt1 : w.heap.size < w3.heap.size + 1 := by omega
  have hlt2 : w.heap.size < w3.heap.size + 2 := by omega
  have hlt3 : w.heap.size < w3.heap.size + 1 + 1 := by omega
  clear b0 b1 b2 b3 b4 b5 b6 b7 b8 hB2 U2 hu3
  have b0 := hB3.cell 0
  have b1 := hB3.cell 1
  have b2 := hB3.cell 2
  have b3 := hB3.cell 3
  have b4 := hB3.cell 4
  have b5 := hB3.cell 5
  have b6 := hB3.cell 6
  have b7 := hB3.cell 7
  have b8 := hB3.cell 8
  simp at b0 b1 b2 b3 b4 b5 b6 b7 b8
  have hU : Upd [] [] w ((((w3.alloc (.cells #[.bool true, .bool false, .bool true, .bool true, .bool false] 81)).alloc (.cells #[.int .i64 1, .int .i64 cl, .int .i64 sq, .int .i64 tm, .int .i64 s, .int .i64 a, .int .i64 p, .int .i64 q, .int .i64 n] 68)).alloc (.cells #[.int .i64 1, .int .i64 cl, .int .i64 sq, .int .i64 tm, .int .i64 s, .int .i64 a, .int .i64 p, .int .i64 n, .int .i64 i] 68)).alloc (.cells #[.int .i64 1, .int .i64 cl, .int .i64 n, .int .i64 tm, .int .i64 s, .int .i64 a, .int .i64 p, .int .i64 q, .int .i64 i] 68)) := (((U3.alloc _).alloc _).alloc _).alloc _
  have h8 := (Blk.new ((w3.alloc (.cells #[.bool true, .bool false, .bool true, .bool true, .bool false] 81)).alloc (.cells #[.int .i64 1, .int .i64 cl, .int .i64 sq, .int .i64 tm, .int .i64 s, .int .i64 a, .int .i64 p, .int .i64 q, .int .i64 n] 68)) 68 #[.int .i64 1, .int .i64 cl, .int .i64 sq, .int .i64 tm, .int .i64 s, .int .i64 a, .int .i64 p, .int .i64 n, .int .i64 i]).alloc (.cells #[.int .i64 1, .int .i64 cl, .int .i64 n, .int .i64 tm, .int .i64 s, .int .i64 a, .int .i64 p, .int .i64 q, .int .i64 i] 68)
  have h9 := Blk.new (((w3.alloc (.cells #[.bool true, .bool false, .bool true, .bool true, .bool false] 81)).alloc (.cells #[.int .i64 1, .int .i64 cl, .int .i64 sq, .int .i64 tm, .int .i64 s, .int .i64 a, .int .i64 p, .int .i64 q, .int .i64 n] 68)).alloc (.cells #[.int .i64 1, .int .i64 cl, .int .i64 sq, .int .i64 tm, .int .i64 s, .int .i64 a, .int .i64 p, .int .i64 n, .int .i64 i] 68)) 68 #[.int .i64 1, .int .i64 cl, .int .i64 n, .int .i64 tm, .int .i64 s, .int .i64 a, .int .i64 p, .int .i64 q, .int .i64 i]
  simp only [World.size_alloc] at h8 h9
  repeat' ((fail_if_success (with_reducible refine stop_append rfl ?_)); (fail_if_success (with_reducible refine stop_copy rfl ?_)); first | go_values | go_skip | go_guarded | go_step | go_upon | (simp only []; go_at_K))
  refine (Ma _).mono ?_
  rintro ev w4 ⟨rfl, hu4⟩
  have k8 := h8.upd hu4 (by simp)
  have k9 := h9.upd hu4 (by simp)
  have U4 := hU.trans hu4
  clear b0 b1 b2 b3 b4 b5 b6 b7 b8 hB3 U3 h8 h9 hU hu4 Ma
  have b0 := k8.cell 0
  have b1 := k8.cell 1
  have b2 := k8.cell 2
  have b3 := k8.cell 3
  have b4 := k8.cell 4
  have b5 := k8.cell 5
  have b6 := k8.cell 6
  have b7 := k8.cell 7
  have b8 := k8.cell 8
  simp at b0 b1 b2 b3 b4 b5 b6 b7 b8
  repeat' ((fail_if_success (with_reducible refine stop_append rfl ?_)); (fail_if_success (with_reducible refine stop_copy rfl ?_)); first | go_values | go_skip | go_guarded | go_step | go_upon | (simp only []; go_at_K))
  refine (Mb _).mono ?_
  rintro ev w5 ⟨rfl, hu5⟩
  have k9 := k9.upd hu5 (by simp)
  have U5 := U4.trans hu5
  clear b0 b1 b2 b3 b4 b5 b6 b7 b8 k8 U4 hu5 Mb
  have b0 := k9.cell 0
  have b1 := k9.cell 1
  have b2 := k9.cell 2
  have b3 := k9.cell 3
  have b4 := k9.cell 4
  have b5 := k9.cell 5
  have b6 := k9.cell 6
  have b7 := k9.cell 7
  have b8 := k9.cell 8
  simp at b0 b1 b2 b3 b4 b5 b6 b7 b8
  repeat' ((fail_if_success (with_reducible refine stop_append rfl ?_)); (fail_if_success (with_reducible refine stop_copy rfl ?_)); first | go_values | go_skip | go_guarded | go_step | go_upon | (simp only []; go_at_K))
  refine (Md _).mono ?_
  rintro ev w6 ⟨rfl, hu6⟩
  repeat' ((fail_if_success (with_reducible refine stop_append rfl ?_)); (fail_if_success (with_reducible refine stop_copy rfl ?_)); first | go_values | go_skip | go_guarded | go_step | go_upon | (simp only []; go_at_K))
  go_ret
  exact ⟨rfl, U5.trans hu6⟩

set_option maxRecDepth 100000 in
set_option maxHeartbeats 4000000 in
theorem cf_2_neg (w : World) (hG : GoodG w) (cl sq tm s a p q i n : Int) (hn : n < 0) (hm : (Cm.mk 2 cl sq tm s a p q i).may = true) :
    Calls Tryd.prog 13 #[.agg #[.int .i64 2, .int .i64 cl, .int .i64 sq, .int .i64 tm, .int .i64 s, .int .i64 a, .int .i64 p, .int .i64 q, .int .i64 i], .int .i64 n] w fun ev w' => ev = .returned (.bool true) ∧ Upd [] [] w w' := by
  have M := cmdMay (Cm.mk 2 cl sq tm s a p q i)
  rw [err_ok hm] at M
  have Ma := cmdMay (Cm.mk 2 cl sq tm s a p q n)
  rw [err_bad (c := Cm.mk 2 cl sq tm s a p q n) (Bool.eq_false_iff.2 fun h => by simp [Cm.may, flds, wi] at hm h <;> omega)] at Ma
  have Mb := cmdMay (Cm.mk 2 cl sq tm s a p n i)
  rw [err_bad (c := Cm.mk 2 cl sq tm s a p n i) (Bool.eq_false_iff.2 fun h => by simp [Cm.may, flds, wi] at hm h <;> omega)] at Mb
  have Md := cmdMay (Cm.mk 2 cl n tm s a p q i)
  rw [err_bad (c := Cm.mk 2 cl n tm s a p q i) (Bool.eq_false_iff.2 fun h => by simp [Cm.may, flds, wi] at hm h <;> omega)] at Md
  simp only [Cm.val] at M Ma Mb Md
  clear hm
  have d0 : decide (1 ≤ n) = false := decide_eq_false (by omega)
  have d1 : decide (n ≤ 1099511627776) = true := decide_eq_true (by omega)
  have d2 : decide (n ≤ 1073741824) = true := decide_eq_true (by omega)
  have d9 : (n == 0) = false := beq_eq_false_iff_ne.2 (by omega)
  clear hn
  go_enter Tryd.func13, Tryd.ntmps13
  repeat' ((fail_if_success (with_reducible refine stop_append rfl ?_)); (fail_if_success (with_reducible refine stop_copy rfl ?_)); first | go_values | go_skip | go_guarded | go_step | go_upon | (simp only []; go_at_K))
  refine (awake05 _ (hG.alloc _)).mono ?_
  rintro ev w1 ⟨rfl, hu1⟩
  have hB1 := (Blk.new w 68 #[.int .i64 2, .int .i64 cl, .int .i64 sq, .int .i64 tm, .int .i64 s, .int .i64 a, .int .i64 p, .int .i64 q, .int .i64 i]).upd hu1 (by simp)
  have U1 : Upd [] [] w w1 := ((Upd.refl [] w).alloc _).trans hu1
  have b0 := hB1.cell 0
  have b1 := hB1.cell 1
  have b2 := hB1.cell 2
  have b3 := hB1.cell 3
  have b4 := hB1.cell 4
  have b5 := hB1.cell 5
  have b6 := hB1.cell 6
  have b7 := hB1.cell 7
  have b8 := hB1.cell 8
  simp at b0 b1 b2 b3 b4 b5 b6 b7 b8
  clear hu1
  repeat' ((fail_if_success (with_reducible refine stop_append rfl ?_)); (fail_if_success (with_reducible refine stop_copy rfl ?_)); first | go_values | go_skip | go_guarded | go_step | go_upon | (simp only []; go_at_K))
  refine (M _).mono ?_
  rintro ev w2 ⟨rfl, hu2⟩
  have hB2 := hB1.upd hu2 (by simp)
  have U2 := U1.trans hu2
  clear b0 b1 b2 b3 b4 b5 b6 b7 b8 hB1 U1 hu2 M
  have b0 := hB2.cell 0
  have b1 := hB2.cell 1
  have b2 := hB2.cell 2
  have b3 := hB2.cell 3
  have b4 := hB2.cell 4
  have b5 := hB2.cell 5
  have b6 := hB2.cell 6
  have b7 := hB2.cell 7
  have b8 := hB2.cell 8
  simp at b0 b1 b2 b3 b4 b5 b6 b7 b8
  repeat' ((fail_if_success (with_reducible refine stop_append rfl ?_)); (fail_if_success (with_reducible refine stop_copy rfl ?_)); first | go_values | go_skip | go_guarded | go_step | go_upon | (simp only []; go_at_K))
  refine (uses_k2 _).mono ?_
  rintro ev w3 ⟨rfl, hu3⟩
  have hB3 := hB2.upd hu3 (by simp)
  have U3 := U2.trans hu3
  have hlt := hB3.lt
  have hlt1 : w.heap.size < w3.heap.size + 1 := by omega
  have hlt2 : w.heap.size < w3.heap.size + 2 := by omega
  have hlt3 : w.heap.size < w3.heap.size + 1 + 1 := by omega
  clear b0 b1 b2 b3 b4 b5 b6 b7 b8 hB2 U2 hu3
  have b0 := hB3.cell 0
  have b1 := hB3.cell 1
  have b2 := hB3.cell 2
  have b3 := hB3.cell 3
  have b4 := hB3.cell 4
  have b5 := hB3.cell 5
  have b6 := hB3.cell 6
  have b7 := hB3.cell 7
  have b8 := hB3.cell 8
  simp at b0 b1 b2 b3 b4 b5 b6 b7 b8
  have hU : Upd [] [] w ((((w3.alloc (.cells #[.bool true, .bool false, .bool false, .bool true, .bool false] 81)).alloc (.cells #[.int .i64 2, .int .i64 cl, .int .i64 sq, .int .i64 tm, .int .i64 s, .int .i64 a, .int .i64 p, .int .i64 q, .int .i64 n] 68)).alloc (.cells #[.int .i64 2, .int .i64 cl, .int .i64 sq, .int .i64 tm, .int .i64 s, .int .i64 a, .int .i64 p, .int .i64 n, .int .i64 i] 68)).alloc (.cells #[.int .i64 2, .int .i64 cl, .int .i64 n, .int .i64 tm, .int .i64 s, .int .i64 a, .int .i64 p, .int .i64 q, .int .i64 i] 68)) := (((U3.alloc _).alloc _).alloc _).alloc _
  have h8 := (Blk.new ((w3.alloc (.cells #[.bool true, .bool false, .bool false, .bool true, .bool false] 81)).alloc (.cells #[.int .i64 2, .int .i64 cl, .int .i64 sq, .int .i64 tm, .int .i64 s, .int .i64 a, .int .i64 p, .int .i64 q, .int .i64 n] 68)) 68 #[.int .i64 2, .int .i64 cl, .int .i64 sq, .int .i64 tm, .int .i64 s, .int .i64 a, .int .i64 p, .int .i64 n, .int .i64 i]).alloc (.cells #[.int .i64 2, .int .i64 cl, .int .i64 n, .int .i64 tm, .int .i64 s, .int .i64 a, .int .i64 p, .int .i64 q, .int .i64 i] 68)
  have h9 := Blk.new (((w3.alloc (.cells #[.bool true, .bool false, .bool false, .bool true, .bool false] 81)).alloc (.cells #[.int .i64 2, .int .i64 cl, .int .i64 sq, .int .i64 tm, .int .i64 s, .int .i64 a, .int .i64 p, .int .i64 q, .int .i64 n] 68)).alloc (.cells #[.int .i64 2, .int .i64 cl, .int .i64 sq, .int .i64 tm, .int .i64 s, .int .i64 a, .int .i64 p, .int .i64 n, .int .i64 i] 68)) 68 #[.int .i64 2, .int .i64 cl, .int .i64 n, .int .i64 tm, .int .i64 s, .int .i64 a, .int .i64 p, .int .i64 q, .int .i64 i]
  simp only [World.size_alloc] at h8 h9
  repeat' ((fail_if_success (with_reducible refine stop_append rfl ?_)); (fail_if_success (with_reducible refine stop_copy rfl ?_)); first | go_values | go_skip | go_guarded | go_step | go_upon | (simp only []; go_at_K))
  refine (Ma _).mono ?_
  rintro ev w4 ⟨rfl, hu4⟩
  have k8 := h8.upd hu4 (by simp)
  have k9 := h9.upd hu4 (by simp)
  have U4 := hU.trans hu4
  clear b0 b1 b2 b3 b4 b5 b6 b7 b8 hB3 U3 h8 h9 hU hu4 Ma
  have b0 := k8.cell 0
  have b1 := k8.cell 1
  have b2 := k8.cell 2
  have b3 := k8.cell 3
  have b4 := k8.cell 4
  have b5 := k8.cell 5
  have b6 := k8.cell 6
  have b7 := k8.cell 7
  have b8 := k8.cell 8
  simp at b0 b1 b2 b3 b4 b5 b6 b7 b8
  repeat' ((fail_if_success (with_reducible refine stop_append rfl ?_)); (fail_if_success (with_reducible refine stop_copy rfl ?_)); first | go_values | go_skip | go_guarded | go_step | go_upon | (simp only []; go_at_K))
  refine (Mb _).mono ?_
  rintro ev w5 ⟨rfl, hu5⟩
  have k9 := k9.upd hu5 (by simp)
  have U5 := U4.trans hu5
  clear b0 b1 b2 b3 b4 b5 b6 b7 b8 k8 U4 hu5 Mb
  have b0 := k9.cell 0
  have b1 := k9.cell 1
  have b2 := k9.cell 2
  have b3 := k9.cell 3
  have b4 := k9.cell 4
  have b5 := k9.cell 5
  have b6 := k9.cell 6
  have b7 := k9.cell 7
  have b8 := k9.cell 8
  simp at b0 b1 b2 b3 b4 b5 b6 b7 b8
  repeat' ((fail_if_success (with_reducible refine stop_append rfl ?_)); (fail_if_success (with_reducible refine stop_copy rfl ?_)); first | go_values | go_skip | go_guarded | go_step | go_upon | (simp only []; go_at_K))
  refine (Md _).mono ?_
  rintro ev w6 ⟨rfl, hu6⟩
  repeat' ((fail_if_success (with_reducible refine stop_append rfl ?_)); (fail_if_success (with_reducible refine stop_copy rfl ?_)); first | go_values | go_skip | go_guarded | go_step | go_upon | (simp only []; go_at_K))
  go_ret
  exact ⟨rfl, U5.trans hu6⟩

set_option maxRecDepth 100000 in
set_option maxHeartbeats 4000000 in
theorem cf_2_zero (w : World) (hG : GoodG w) (cl sq tm s a p q i : Int) (hm : (Cm.mk 2 cl sq tm s a p q i).may = true) :
    Calls Tryd.prog 13 #[.agg #[.int .i64 2, .int .i64 cl, .int .i64 sq, .int .i64 tm, .int .i64 s, .int .i64 a, .int .i64 p, .int .i64 q, .int .i64 i], .int .i64 0] w fun ev w' => ev = .returned (.bool true) ∧ Upd [] [] w w' := by
  have M := cmdMay (Cm.mk 2 cl sq tm s a p q i)
  rw [err_ok hm] at M
  have Ma := cmdMay (Cm.mk 2 cl sq tm s a p q 0)
  rw [err_ok (c := Cm.mk 2 cl sq tm s a p q 0) (by simp [Cm.may, flds, wi] at hm ⊢ <;> omega)] at Ma
  have Mb := cmdMay (Cm.mk 2 cl sq tm s a p 0 i)
  rw [err_bad (c := Cm.mk 2 cl sq tm s a p 0 i) (Bool.eq_false_iff.2 fun h => by simp [Cm.may, flds, wi] at hm h <;> omega)] at Mb
  have Md := cmdMay (Cm.mk 2 cl 0 tm s a p q i)
  rw [err_bad (c := Cm.mk 2 cl 0 tm s a p q i) (Bool.eq_false_iff.2 fun h => by simp [Cm.may, flds, wi] at hm h <;> omega)] at Md
  simp only [Cm.val] at M Ma Mb Md
  clear hm
  go_enter Tryd.func13, Tryd.ntmps13
  repeat' ((fail_if_success (with_reducible refine stop_append rfl ?_)); (fail_if_success (with_reducible refine stop_copy rfl ?_)); first | go_values | go_skip | go_guarded | go_step | go_upon | (simp only []; go_at_K))
  refine (awake05 _ (hG.alloc _)).mono ?_
  rintro ev w1 ⟨rfl, hu1⟩
  have hB1 := (Blk.new w 68 #[.int .i64 2, .int .i64 cl, .int .i64 sq, .int .i64 tm, .int .i64 s, .int .i64 a, .int .i64 p, .int .i64 q, .int .i64 i]).upd hu1 (by simp)
  have U1 : Upd [] [] w w1 := ((Upd.refl [] w).alloc _).trans hu1
  have b0 := hB1.cell 0
  have b1 := hB1.cell 1
  have b2 := hB1.cell 2
  have b3 := hB1.cell 3
  have b4 := hB1.cell 4
  have b5 := hB1.cell 5
  have b6 := hB1.cell 6
  have b7 := hB1.cell 7
  have b8 := hB1.cell 8
  simp at b0 b1 b2 b3 b4 b5 b6 b7 b8
  clear hu1
  repeat' ((fail_if_success (with_reducible refine stop_append rfl ?_)); (fail_if_success (with_reducible refine stop_copy rfl ?_)); first | go_values | go_skip | go_guarded | go_step | go_upon | (simp only []; go_at_K))
  refine (M _).mono ?_
  rintro ev w2 ⟨rfl, hu2⟩
  have hB2 := hB1.upd hu2 (by simp)
  have U2 := U1.trans hu2
  clear b0 b1 b2 b3 b4 b5 b6 b7 b8 hB1 U1 hu2 M
  have b0 := hB2.cell 0
  have b1 := hB2.cell 1
  have b2 := hB2.cell 2
  have b3 := hB2.cell 3
  have b4 := hB2.cell 4
  have b5 := hB2.cell 5
  have b6 := hB2.cell 6
  have b7 := hB2.cell 7
  have b8 := hB2.cell 8
  simp at b0 b1 b2 b3 b4 b5 b6 b7 b8
  repeat' ((fail_if_success (with_reducible refine stop_append rfl ?_)); (fail_if_success (with_reducible refine stop_copy rfl ?_)); first | go_values | go_skip | go_guarded | go_step | go_upon | (simp only []; go_at_K))
  refine (uses_k2 _).mono ?_
  rintro ev w3 ⟨rfl, hu3⟩
  have hB3 := hB2.upd hu3 (by simp)
  have U3 := U2.trans hu3
  have hlt := hB3.lt
  have hlt1 : w.heap.size < w3.heap.size + 1 := by omega
  have hlt2 : w.heap.size < w3.heap.size + 2 := by omega
  have hlt3 : w.heap.size < w3.heap.size + 1 + 1 := by omega
  clear b0 b1 b2 b3 b4 b5 b6 b7 b8 hB2 U2 hu3
  have b0 := hB3.cell 0
  have b1 := hB3.cell 1
  have b2 := hB3.cell 2
  have b3 := hB3.cell 3
  have b4 := hB3.cell 4
  have b5 := hB3.cell 5
  have b6 := hB3.cell 6
  have b7 := hB3.cell 7
  have b8 := hB3.cell 8
  simp at b0 b1 b2 b3 b4 b5 b6 b7 b8
  have hU : Upd [] [] w ((((w3.alloc (.cells #[.bool true, .bool false, .bool false, .bool true, .bool false] 81)).alloc (.cells #[.int .i64 2, .int .i64 cl, .int .i64 sq, .int .i64 tm, .int .i64 s, .int .i64 a, .int .i64 p, .int .i64 q, .int .i64 0] 68)).alloc (.cells #[.int .i64 2, .int .i64 cl, .int .i64 sq, .int .i64 tm, .int .i64 s, .int .i64 a, .int .i64 p, .int .i64 0, .int .i64 i] 68)).alloc (.cells #[.int .i64 2, .int .i64 cl, .int .i64 0, .int .i64 tm, .int .i64 s, .int .i64 a, .int .i64 p, .int .i64 q, .int .i64 i] 68)) := (((U3.alloc _).alloc _).alloc _).alloc _
  have h8 := (Blk.new ((w3.alloc (.cells #[.bool true, .bool false, .bool false, .bool true, .bool false] 81)).alloc (.cells #[.int .i64 2, .int .i64 cl, .int .i64 sq, .int .i64 tm, .int .i64 s, .int .i64 a, .int .i64 p, .int .i64 q, .int .i64 0] 68)) 68 #[.int .i64 2, .int .i64 cl, .int .i64 sq, .int .i64 tm, .int .i64 s, .int .i64 a, .int .i64 p, .int .i64 0, .int .i64 i]).alloc (.cells #[.int .i64 2, .int .i64 cl, .int .i64 0, .int .i64 tm, .int .i64 s, .int .i64 a, .int .i64 p, .int .i64 q, .int .i64 i] 68)
  have h9 := Blk.new (((w3.alloc (.cells #[.bool true, .bool false, .bool false, .bool true, .bool false] 81)).alloc (.cells #[.int .i64 2, .int .i64 cl, .int .i64 sq, .int .i64 tm, .int .i64 s, .int .i64 a, .int .i64 p, .int .i64 q, .int .i64 0] 68)).alloc (.cells #[.int .i64 2, .int .i64 cl, .int .i64 sq, .int .i64 tm, .int .i64 s, .int .i64 a, .int .i64 p, .int .i64 0, .int .i64 i] 68)) 68 #[.int .i64 2, .int .i64 cl, .int .i64 0, .int .i64 tm, .int .i64 s, .int .i64 a, .int .i64 p, .int .i64 q, .int .i64 i]
  simp only [World.size_alloc] at h8 h9
  repeat' ((fail_if_success (with_reducible refine stop_append rfl ?_)); (fail_if_success (with_reducible refine stop_copy rfl ?_)); first | go_values | go_skip | go_guarded | go_step | go_upon | (simp only []; go_at_K))
  refine (Ma _).mono ?_
  rintro ev w4 ⟨rfl, hu4⟩
  have k8 := h8.upd hu4 (by simp)
  have k9 := h9.upd hu4 (by simp)
  have U4 := hU.trans hu4
  clear b0 b1 b2 b3 b4 b5 b6 b7 b8 hB3 U3 h8 h9 hU hu4 Ma
  have b0 := k8.cell 0
  have b1 := k8.cell 1
  have b2 := k8.cell 2
  have b3 := k8.cell 3
  have b4 := k8.cell 4
  have b5 := k8.cell 5
  have b6 := k8.cell 6
  have b7 := k8.cell 7
  have b8 := k8.cell 8
  simp at b0 b1 b2 b3 b4 b5 b6 b7 b8
  repeat' ((fail_if_success (with_reducible refine stop_append rfl ?_)); (fail_if_success (with_reducible refine stop_copy rfl ?_)); first | go_values | go_skip | go_guarded | go_step | go_upon | (simp only []; go_at_K))
  refine (Mb _).mono ?_
  rintro ev w5 ⟨rfl, hu5⟩
  have k9 := k9.upd hu5 (by simp)
  have U5 := U4.trans hu5
  clear b0 b1 b2 b3 b4 b5 b6 b7 b8 k8 U4 hu5 Mb
  have b0 := k9.cell 0
  have b1 := k9.cell 1
  have b2 := k9.cell 2
  have b3 := k9.cell 3
  have b4 := k9.cell 4
  have b5 := k9.cell 5
  have b6 := k9.cell 6
  have b7 := k9.cell 7
  have b8 := k9.cell 8
  simp at b0 b1 b2 b3 b4 b5 b6 b7 b8
  repeat' ((fail_if_success (with_reducible refine stop_append rfl ?_)); (fail_if_success (with_reducible refine stop_copy rfl ?_)); first | go_values | go_skip | go_guarded | go_step | go_upon | (simp only []; go_at_K))
  refine (Md _).mono ?_
  rintro ev w6 ⟨rfl, hu6⟩
  repeat' ((fail_if_success (with_reducible refine stop_append rfl ?_)); (fail_if_success (with_reducible refine stop_copy rfl ?_)); first | go_values | go_skip | go_guarded | go_step | go_upon | (simp only []; go_at_K))
  go_ret
  exact ⟨rfl, U5.trans hu6⟩

set_option maxRecDepth 100000 in
set_option maxHeartbeats 4000000 in
theorem cf_2_low (w : World) (hG : GoodG w) (cl sq tm s a p q i n : Int) (hn : 1 ≤ n ∧ n ≤ 1073741824) (hm : (Cm.mk 2 cl sq tm s a p q i).may = true) :
    Calls Tryd.prog 13 #[.agg #[.int .i64 2, .int .i64 cl, .int .i64 sq, .int .i64 tm, .int .i64 s, .int .i64 a, .int .i64 p, .int .i64 q, .int .i64 i], .int .i64 n] w fun ev w' => ev = .returned (.bool true) ∧ Upd [] [] w w' := by
  have M := cmdMay (Cm.mk 2 cl sq tm s a p q i)
  rw [err_ok hm] at M
  have Ma := cmdMay (Cm.mk 2 cl sq tm s a p q n)
  rw [err_bad (c := Cm.mk 2 cl sq tm s a p q n) (Bool.eq_false_iff.2 fun h => by simp [Cm.may, flds, wi] at hm h <;> omega)] at Ma
  have Mb := cmdMay (Cm.mk 2 cl sq tm s a p n i)
  rw [err_ok (c := Cm.mk 2 cl sq tm s a p n i) (by simp [Cm.may, flds, wi] at hm ⊢ <;> omega)] at Mb
  have Md := cmdMay (Cm.mk 2 cl n tm s a p q i)
  rw [err_ok (c := Cm.mk 2 cl n tm s a p q i) (by simp [Cm.may, flds, wi] at hm ⊢ <;> omega)] at Md
  simp only [Cm.val] at M Ma Mb Md
  clear hm
  have d0 : decide (1 ≤ n) = true := decide_eq_true (by omega)
  have d1 : decide (n ≤ 1099511627776) = true := decide_eq_true (by omega)
  have d2 : decide (n ≤ 1073741824) = true := decide_eq_true (by omega)
  have d9 : (n == 0) = false := beq_eq_false_iff_ne.2 (by omega)
  clear hn
  go_enter Tryd.func13, Tryd.ntmps13
  repeat' ((fail_if_success (with_reducible refine stop_append rfl ?_)); (fail_if_success (with_reducible refine stop_copy rfl ?_)); first | go_values | go_skip | go_guarded | go_step | go_upon | (simp only []; go_at_K))
  refine (awake05 _ (hG.alloc _)).mono ?_
  rintro ev w1 ⟨rfl, hu1⟩
  have hB1 := (Blk.new w 68 #[.int .i64 2, .int .i64 cl, .int .i64 sq, .int .i64 tm, .int .i64 s, .int .i64 a, .int .i64 p, .int .i64 q, .int .i64 i]).upd hu1 (by simp)
  have U1 : Upd [] [] w w1 := ((Upd.refl [] w).alloc _).trans hu1
  have b0 := hB1.cell 0
  have b1 := hB1.cell 1
  have b2 := hB1.cell 2
  have b3 := hB1.cell 3
  have b4 := hB1.cell 4
  have b5 := hB1.cell 5
  have b6 := hB1.cell 6
  have b7 := hB1.cell 7
  have b8 := hB1.cell 8
  simp at b0 b1 b2 b3 b4 b5 b6 b7 b8
  clear hu1
  repeat' ((fail_if_success (with_reducible refine stop_append rfl ?_)); (fail_if_success (with_reducible refine stop_copy rfl ?_)); first | go_values | go_skip | go_guarded | go_step | go_upon | (simp only []; go_at_K))
  refine (M _).mono ?_
  rintro ev w2 ⟨rfl, hu2⟩
  have hB2 := hB1.upd hu2 (by simp)
  have U2 := U1.trans hu2
  clear b0 b1 b2 b3 b4 b5 b6 b7 b8 hB1 U1 hu2 M
  have b0 := hB2.cell 0
  have b1 := hB2.cell 1
  have b2 := hB2.cell 2
  have b3 := hB2.cell 3
  have b4 := hB2.cell 4
  have b5 := hB2.cell 5
  have b6 := hB2.cell 6
  have b7 := hB2.cell 7
  have b8 := hB2.cell 8
  simp at b0 b1 b2 b3 b4 b5 b6 b7 b8
  repeat' ((fail_if_success (with_reducible refine stop_append rfl ?_)); (fail_if_success (with_reducible refine stop_copy rfl ?_)); first | go_values | go_skip | go_guarded | go_step | go_upon | (simp only []; go_at_K))
  refine (uses_k2 _).mono ?_
  rintro ev w3 ⟨rfl, hu3⟩
  have hB3 := hB2.upd hu3 (by simp)
  have U3 := U2.trans hu3
  have hlt := hB3.lt
  have hlt1 : w.heap.size < w3.heap.size + 1 := by omega
  have hlt2 : w.heap.size < w3.heap.size + 2 := by omega
  have hlt3 : w.heap.size < w3.heap.size + 1 + 1 := by omega
  clear b0 b1 b2 b3 b4 b5 b6 b7 b8 hB2 U2 hu3
  have b0 := hB3.cell 0
  have b1 := hB3.cell 1
  have b2 := hB3.cell 2
  have b3 := hB3.cell 3
  have b4 := hB3.cell 4
  have b5 := hB3.cell 5
  have b6 := hB3.cell 6
  have b7 := hB3.cell 7
  have b8 := hB3.cell 8
  simp at b0 b1 b2 b3 b4 b5 b6 b7 b8
  have hU : Upd [] [] w ((((w3.alloc (.cells #[.bool true, .bool false, .bool false, .bool true, .bool false] 81)).alloc (.cells #[.int .i64 2, .int .i64 cl, .int .i64 sq, .int .i64 tm, .int .i64 s, .int .i64 a, .int .i64 p, .int .i64 q, .int .i64 n] 68)).alloc (.cells #[.int .i64 2, .int .i64 cl, .int .i64 sq, .int .i64 tm, .int .i64 s, .int .i64 a, .int .i64 p, .int .i64 n, .int .i64 i] 68)).alloc (.cells #[.int .i64 2, .int .i64 cl, .int .i64 n, .int .i64 tm, .int .i64 s, .int .i64 a, .int .i64 p, .int .i64 q, .int .i64 i] 68)) := (((U3.alloc _).alloc _).alloc _).alloc _
  have h8 := (Blk.new ((w3.alloc (.cells #[.bool true, .bool false, .bool false, .bool true, .bool false] 81)).alloc (.cells #[.int .i64 2, .int .i64 cl, .int .i64 sq, .int .i64 tm, .int .i64 s, .int .i64 a, .int .i64 p, .int .i64 q, .int .i64 n] 68)) 68 #[.int .i64 2, .int .i64 cl, .int .i64 sq, .int .i64 tm, .int .i64 s, .int .i64 a, .int .i64 p, .int .i64 n, .int .i64 i]).alloc (.cells #[.int .i64 2, .int .i64 cl, .int .i64 n, .int .i64 tm, .int .i64 s, .int .i64 a, .int .i64 p, .int .i64 q, .int .i64 i] 68)
  have h9 := Blk.new (((w3.alloc (.cells #[.bool true, .bool false, .bool false, .bool true, .bool false] 81)).alloc (.cells #[.int .i64 2, .int .i64 cl, .int .i64 sq, .int .i64 tm, .int .i64 s, .int .i64 a, .int .i64 p, .int .i64 q, .int .i64 n] 68)).alloc (.cells #[.int .i64 2, .int .i64 cl, .int .i64 sq, .int .i64 tm, .int .i64 s, .int .i64 a, .int .i64 p, .int .i64 n, .int .i64 i] 68)) 68 #[.int .i64 2, .int .i64 cl, .int .i64 n, .int .i64 tm, .int .i64 s, .int .i64 a, .int .i64 p, .int .i64 q, .int .i64 i]
  simp only [World.size_alloc] at h8 h9
  repeat' ((fail_if_success (with_reducible refine stop_append rfl ?_)); (fail_if_success (with_reducible refine stop_copy rfl ?_)); first | go_values | go_skip | go_guarded | go_step | go_upon | (simp only []; go_at_K))
  refine (Ma _).mono ?_
  rintro ev w4 ⟨rfl, hu4⟩
  have k8 := h8.upd hu4 (by simp)
  have k9 := h9.upd hu4 (by simp)
  have U4 := hU.trans hu4
  clear b0 b1 b2 b3 b4 b5 b6 b7 b8 hB3 U3 h8 h9 hU hu4 Ma
  have b0 := k8.cell 0
  have b1 := k8.cell 1
  have b2 := k8.cell 2
  have b3 := k8.cell 3
  have b4 := k8.cell 4
  have b5 := k8.cell 5
  have b6 := k8.cell 6
  have b7 := k8.cell 7
  have b8 := k8.cell 8
  simp at b0 b1 b2 b3 b4 b5 b6 b7 b8
  repeat' ((fail_if_success (with_reducible refine stop_append rfl ?_)); (fail_if_success (with_reducible refine stop_copy rfl ?_)); first | go_values | go_skip | go_guarded | go_step | go_upon | (simp only []; go_at_K))
  refine (Mb _).mono ?_
  rintro ev w5 ⟨rfl, hu5⟩
  have k9 := k9.upd hu5 (by simp)
  have U5 := U4.trans hu5
  clear b0 b1 b2 b3 b4 b5 b6 b7 b8 k8 U4 hu5 Mb
  have b0 := k9.cell 0
  have b1 := k9.cell 1
  have b2 := k9.cell 2
  have b3 := k9.cell 3
  have b4 := k9.cell 4
  have b5 := k9.cell 5
  have b6 := k9.cell 6
  have b7 := k9.cell 7
  have b8 := k9.cell 8
  simp at b0 b1 b2 b3 b4 b5 b6 b7 b8
  repeat' ((fail_if_success (with_reducible refine stop_append rfl ?_)); (fail_if_success (with_reducible refine stop_copy rfl ?_)); first | go_values | go_skip | go_guarded | go_step | go_upon | (simp only []; go_at_K))
  refine (Md _).mono ?_
  rintro ev w6 ⟨rfl, hu6⟩
  repeat' ((fail_if_success (with_reducible refine stop_append rfl ?_)); (fail_if_success (with_reducible refine stop_copy rfl ?_)); first | go_values | go_skip | go_guarded | go_step | go_upon | (simp only []; go_at_K))
  go_ret
  exact ⟨rfl, U5.trans hu6⟩

set_option maxRecDepth 100000 in
set_option maxHeartbeats 4000000 in
theorem cf_2_mid (w : World) (hG : GoodG w) (cl sq tm s a p q i n : Int) (hn : 1073741824 < n ∧ n ≤ 1099511627776) (hm : (Cm.mk 2 cl sq tm s a p q i).may = true) :
    Calls Tryd.prog 13 #[.agg #[.int .i64 2, .int .i64 cl, .int .i64 sq, .int .i64 tm, .int .i64 s, .int .i64 a, .int .i64 p, .int .i64 q, .int .i64 i], .int .i64 n] w fun ev w' => ev = .returned (.bool true) ∧ Upd [] [] w w' := by
  have M := cmdMay (Cm.mk 2 cl sq tm s a p q i)
  rw [err_ok hm] at M
  have Ma := cmdMay (Cm.mk 2 cl sq tm s a p q n)
  rw [err_bad (c := Cm.mk 2 cl sq tm s a p q n) (Bool.eq_false_iff.2 fun h => by simp [Cm.may, flds, wi] at hm h <;> omega)] at Ma
  have Mb := cmdMay (Cm.mk 2 cl sq tm s a p n i)
  rw [err_bad (c := Cm.mk 2 cl sq tm s a p n i) (Bool.eq_false_iff.2 fun h => by simp [Cm.may, flds, wi] at hm h <;> omega)] at Mb
  have Md := cmdMay (Cm.mk 2 cl n tm s a p q i)
  rw [err_ok (c := Cm.mk 2 cl n tm s a p q i) (by simp [Cm.may, flds, wi] at hm ⊢ <;> omega)] at Md
  simp only [Cm.val] at M Ma Mb Md
  clear hm
  have d0 : decide (1 ≤ n) = true := decide_eq_true (by omega)
  have d1 : decide (n ≤ 1099511627776) = true := decide_eq_true (by omega)
  have d2 : decide (n ≤ 1073741824) = false := decide_eq_false (by omega)
  have d9 : (n == 0) = false := beq_eq_false_iff_ne.2 (by omega)
  clear hn
  go_enter Tryd.func13, Tryd.ntmps13
  repeat' ((fail_if_success (with_reducible refine stop_append rfl ?_)); (fail_if_success (with_reducible refine stop_copy rfl ?_)); first | go_values | go_skip | go_guarded | go_step | go_upon | (simp only []; go_at_K))
  refine (awake05 _ (hG.alloc _)).mono ?_
  rintro ev w1 ⟨rfl, hu1⟩
  have hB1 := (Blk.new w 68 #[.int .i64 2, .int .i64 cl, .int .i64 sq, .int .i64 tm, .int .i64 s, .int .i64 a, .int .i64 p, .int .i64 q, .int .i64 i]).upd hu1 (by simp)
  have U1 : Upd [] [] w w1 := ((Upd.refl [] w).alloc _).trans hu1
  have b0 := hB1.cell 0
  have b1 := hB1.cell 1
  have b2 := hB1.cell 2
  have b3 := hB1.cell 3
  have b4 := hB1.cell 4
  have b5 := hB1.cell 5
  have b6 := hB1.cell 6
  have b7 := hB1.cell 7
  have b8 := hB1.cell 8
  simp at b0 b1 b2 b3 b4 b5 b6 b7 b8
  clear hu1
  repeat' ((fail_if_success (with_reducible refine stop_append rfl ?_)); (fail_if_success (with_reducible refine stop_copy rfl ?_)); first | go_values | go_skip | go_guarded | go_step | go_upon | (simp only []; go_at_K))
  refine (M _).mono ?_
  rintro ev w2 ⟨rfl, hu2⟩
  have hB2 := hB1.upd hu2 (by simp)
  have U2 := U1.trans hu2
  clear b0 b1 b2 b3 b4 b5 b6 b7 b8 hB1 U1 hu2 M
  have b0 := hB2.cell 0
  have b1 := hB2.cell 1
  have b2 := hB2.cell 2
  have b3 := hB2.cell 3
  have b4 := hB2.cell 4
  have b5 := hB2.cell 5
  have b6 := hB2.cell 6
  have b7 := hB2.cell 7
  have b8 := hB2.cell 8
  simp at b0 b1 b2 b3 b4 b5 b6 b7 b8
  repeat' ((fail_if_success (with_reducible refine stop_append rfl ?_)); (fail_if_success (with_reducible refine stop_copy rfl ?_)); first | go_values | go_skip | go_guarded | go_step | go_upon | (simp only []; go_at_K))
  refine (uses_k2 _).mono ?_
  rintro ev w3 ⟨rfl, hu3⟩
  have hB3 := hB2.upd hu3 (by simp)
  have U3 := U2.trans hu3
  have hlt := hB3.lt
  have hlt1 : w.heap.size < w3.heap.size + 1 := by omega
  have hlt2 : w.heap.size < w3.heap.size + 2 := by omega
  have hlt3 : w.heap.size < w3.heap.size + 1 + 1 := by omega
  clear b0 b1 b2 b3 b4 b5 b6 b7 b8 hB2 U2 hu3
  have b0 := hB3.cell 0
  have b1 := hB3.cell 1
  have b2 := hB3.cell 2
  have b3 := hB3.cell 3
  have b4 := hB3.cell 4
  have b5 := hB3.cell 5
  have b6 := hB3.cell 6
  have b7 := hB3.cell 7
  have b8 := hB3.cell 8
  simp at b0 b1 b2 b3 b4 b5 b6 b7 b8
  have hU : Upd [] [] w ((((w3.alloc (.cells #[.bool true, .bool false, .bool false, .bool true, .bool false] 81)).alloc (.cells #[.int .i64 2, .int .i64 cl, .int .i64 sq, .int .i64 tm, .int .i64 s, .int .i64 a, .int .i64 p, .int .i64 q, .int .i64 n] 68)).alloc (.cells #[.int .i64 2, .int .i64 cl, .int .i64 sq, .int .i64 tm, .int .i64 s, .int .i64 a, .int .i64 p, .int .i64 n, .int .i64 i] 68)).alloc (.cells #[.int .i64 2, .int .i64 cl, .int .i64 n, .int .i64 tm, .int .i64 s, .int .i64 a, .int .i64 p, .int .i64 q, .int .i64 i] 68)) := (((U3.alloc _).alloc _).alloc _).alloc _
  have h8 := (Blk.new ((w3.alloc (.cells #[.bool true, .bool false, .bool false, .bool true, .bool false] 81)).alloc (.cells #[.int .i64 2, .int .i64 cl, .int .i64 sq, .int .i64 tm, .int .i64 s, .int .i64 a, .int .i64 p, .int .i64 q, .int .i64 n] 68)) 68 #[.int .i64 2, .int .i64 cl, .int .i64 sq, .int .i64 tm, .int .i64 s, .int .i64 a, .int .i64 p, .int .i64 n, .int .i64 i]).alloc (.cells #[.int .i64 2, .int .i64 cl, .int .i64 n, .int .i64 tm, .int .i64 s, .int .i64 a, .int .i64 p, .int .i64 q, .int .i64 i] 68)
  have h9 := Blk.new (((w3.alloc (.cells #[.bool true, .bool false, .bool false, .bool true, .bool false] 81)).alloc (.cells #[.int .i64 2, .int .i64 cl, .int .i64 sq, .int .i64 tm, .int .i64 s, .int .i64 a, .int .i64 p, .int .i64 q, .int .i64 n] 68)).alloc (.cells #[.int .i64 2, .int .i64 cl, .int .i64 sq, .int .i64 tm, .int .i64 s, .int .i64 a, .int .i64 p, .int .i64 n, .int .i64 i] 68)) 68 #[.int .i64 2, .int .i64 cl, .int .i64 n, .int .i64 tm, .int .i64 s, .int .i64 a, .int .i64 p, .int .i64 q, .int .i64 i]
  simp only [World.size_alloc] at h8 h9
  repeat' ((fail_if_success (with_reducible refine stop_append rfl ?_)); (fail_if_success (with_reducible refine stop_copy rfl ?_)); first | go_values | go_skip | go_guarded | go_step | go_upon | (simp only []; go_at_K))
  refine (Ma _).mono ?_
  rintro ev w4 ⟨rfl, hu4⟩
  have k8 := h8.upd hu4 (by simp)
  have k9 := h9.upd hu4 (by simp)
  have U4 := hU.trans hu4
  clear b0 b1 b2 b3 b4 b5 b6 b7 b8 hB3 U3 h8 h9 hU hu4 Ma
  have b0 := k8.cell 0
  have b1 := k8.cell 1
  have b2 := k8.cell 2
  have b3 := k8.cell 3
  have b4 := k8.cell 4
  have b5 := k8.cell 5
  have b6 := k8.cell 6
  have b7 := k8.cell 7
  have b8 := k8.cell 8
  simp at b0 b1 b2 b3 b4 b5 b6 b7 b8
  repeat' ((fail_if_success (with_reducible refine stop_append rfl ?_)); (fail_if_success (with_reducible refine stop_copy rfl ?_)); first | go_values | go_skip | go_guarded | go_step | go_upon | (simp only []; go_at_K))
  refine (Mb _).mono ?_
  rintro ev w5 ⟨rfl, hu5⟩
  have k9 := k9.upd hu5 (by simp)
  have U5 := U4.trans hu5
  clear b0 b1 b2 b3 b4 b5 b6 b7 b8 k8 U4 hu5 Mb
  have b0 := k9.cell 0
  have b1 := k9.cell 1
  have b2 := k9.cell 2
  have b3 := k9.cell 3
  have b4 := k9.cell 4
  have b5 := k9.cell 5
  have b6 := k9.cell 6
  have b7 := k9.cell 7
  have b8 := k9.cell 8
  simp at b0 b1 b2 b3 b4 b5 b6 b7 b8
  repeat' ((fail_if_success (with_reducible refine stop_append rfl ?_)); (fail_if_success (with_reducible refine stop_copy rfl ?_)); first | go_values | go_skip | go_guarded | go_step | go_upon | (simp only []; go_at_K))
  refine (Md _).mono ?_
  rintro ev w6 ⟨rfl, hu6⟩
  repeat' ((fail_if_success (with_reducible refine stop_append rfl ?_)); (fail_if_success (with_reducible refine stop_copy rfl ?_)); first | go_values | go_skip | go_guarded | go_step | go_upon | (simp only []; go_at_K))
  go_ret
  exact ⟨rfl, U5.trans hu6⟩

set_option maxRecDepth 100000 in
set_option maxHeartbeats 4000000 in
theorem cf_2_high (w : World) (hG : GoodG w) (cl sq tm s a p q i n : Int) (hn : 1099511627776 < n) (hm : (Cm.mk 2 cl sq tm s a p q i).may = true) :
    Calls Tryd.prog 13 #[.agg #[.int .i64 2, .int .i64 cl, .int .i64 sq, .int .i64 tm, .int .i64 s, .int .i64 a, .int .i64 p, .int .i64 q, .int .i64 i], .int .i64 n] w fun ev w' => ev = .returned (.bool true) ∧ Upd [] [] w w' := by
  have M := cmdMay (Cm.mk 2 cl sq tm s a p q i)
  rw [err_ok hm] at M
  have Ma := cmdMay (Cm.mk 2 cl sq tm s a p q n)
  rw [err_bad (c := Cm.mk 2 cl sq tm s a p q n) (Bool.eq_false_iff.2 fun h => by simp [Cm.may, flds, wi] at hm h <;> omega)] at Ma
  have Mb := cmdMay (Cm.mk 2 cl sq tm s a p n i)
  rw [err_bad (c := Cm.mk 2 cl sq tm s a p n i) (Bool.eq_false_iff.2 fun h => by simp [Cm.may, flds, wi] at hm h <;> omega)] at Mb
  have Md := cmdMay (Cm.mk 2 cl n tm s a p q i)
  rw [err_bad (c := Cm.mk 2 cl n tm s a p q i) (Bool.eq_false_iff.2 fun h => by simp [Cm.may, flds, wi] at hm h <;> omega)] at Md
  simp only [Cm.val] at M Ma Mb Md
  clear hm
  have d0 : decide (1 ≤ n) = true := decide_eq_true (by omega)
  have d1 : decide (n ≤ 1099511627776) = false := decide_eq_false (by omega)
  have d2 : decide (n ≤ 1073741824) = false := decide_eq_false (by omega)
  have d9 : (n == 0) = false := beq_eq_false_iff_ne.2 (by omega)
  clear hn
  go_enter Tryd.func13, Tryd.ntmps13
  repeat' ((fail_if_success (with_reducible refine stop_append rfl ?_)); (fail_if_success (with_reducible refine stop_copy rfl ?_)); first | go_values | go_skip | go_guarded | go_step | go_upon | (simp only []; go_at_K))
  refine (awake05 _ (hG.alloc _)).mono ?_
  rintro ev w1 ⟨rfl, hu1⟩
  have hB1 := (Blk.new w 68 #[.int .i64 2, .int .i64 cl, .int .i64 sq, .int .i64 tm, .int .i64 s, .int .i64 a, .int .i64 p, .int .i64 q, .int .i64 i]).upd hu1 (by simp)
  have U1 : Upd [] [] w w1 := ((Upd.refl [] w).alloc _).trans hu1
  have b0 := hB1.cell 0
  have b1 := hB1.cell 1
  have b2 := hB1.cell 2
  have b3 := hB1.cell 3
  have b4 := hB1.cell 4
  have b5 := hB1.cell 5
  have b6 := hB1.cell 6
  have b7 := hB1.cell 7
  have b8 := hB1.cell 8
  simp at b0 b1 b2 b3 b4 b5 b6 b7 b8
  clear hu1
  repeat' ((fail_if_success (with_reducible refine stop_append rfl ?_)); (fail_if_success (with_reducible refine stop_copy rfl ?_)); first | go_values | go_skip | go_guarded | go_step | go_upon | (simp only []; go_at_K))
  refine (M _).mono ?_
  rintro ev w2 ⟨rfl, hu2⟩
  have hB2 := hB1.upd hu2 (by simp)
  have U2 := U1.trans hu2
  clear b0 b1 b2 b3 b4 b5 b6 b7 b8 hB1 U1 hu2 M
  have b0 := hB2.cell 0
  have b1 := hB2.cell 1
  have b2 := hB2.cell 2
  have b3 := hB2.cell 3
  have b4 := hB2.cell 4
  have b5 := hB2.cell 5
  have b6 := hB2.cell 6
  have b7 := hB2.cell 7
  have b8 := hB2.cell 8
  simp at b0 b1 b2 b3 b4 b5 b6 b7 b8
  repeat' ((fail_if_success (with_reducible refine stop_append rfl ?_)); (fail_if_success (with_reducible refine stop_copy rfl ?_)); first | go_values | go_skip | go_guarded | go_step | go_upon | (simp only []; go_at_K))
  refine (uses_k2 _).mono ?_
  rintro ev w3 ⟨rfl, hu3⟩
  have hB3 := hB2.upd hu3 (by simp)
  have U3 := U2.trans hu3
  have hlt := hB3.lt
  have hlt1 : w.heap.size < w3.heap.size + 1 := by omega
  have hlt2 : w.heap.size < w3.heap.size + 2 := by omega
  have hlt3 : w.heap.size < w3.heap.size + 1 + 1 := by omega
  clear b0 b1 b2 b3 b4 b5 b6 b7 b8 hB2 U2 hu3
  have b0 := hB3.cell 0
  have b1 := hB3.cell 1
  have b2 := hB3.cell 2
  have b3 := hB3.cell 3
  have b4 := hB3.cell 4
  have b5 := hB3.cell 5
  have b6 := hB3.cell 6
  have b7 := hB3.cell 7
  have b8 := hB3.cell 8
  simp at b0 b1 b2 b3 b4 b5 b6 b7 b8
  have hU : Upd [] [] w ((((w3.alloc (.cells #[.bool true, .bool false, .bool false, .bool true, .bool false] 81)).alloc (.cells #[.int .i64 2, .int .i64 cl, .int .i64 sq, .int .i64 tm, .int .i64 s, .int .i64 a, .int .i64 p, .int .i64 q, .int .i64 n] 68)).alloc (.cells #[.int .i64 2, .int .i64 cl, .int .i64 sq, .int .i64 tm, .int .i64 s, .int .i64 a, .int .i64 p, .int .i64 n, .int .i64 i] 68)).alloc (.cells #[.int .i64 2, .int .i64 cl, .int .i64 n, .int .i64 tm, .int .i64 s, .int .i64 a, .int .i64 p, .int .i64 q, .int .i64 i] 68)) := (((U3.alloc _).alloc _).alloc _).alloc _
  have h8 := (Blk.new ((w3.alloc (.cells #[.bool true, .bool false, .bool false, .bool true, .bool false] 81)).alloc (.cells #[.int .i64 2, .int .i64 cl, .int .i64 sq, .int .i64 tm, .int .i64 s, .int .i64 a, .int .i64 p, .int .i64 q, .int .i64 n] 68)) 68 #[.int .i64 2, .int .i64 cl, .int .i64 sq, .int .i64 tm, .int .i64 s, .int .i64 a, .int .i64 p, .int .i64 n, .int .i64 i]).alloc (.cells #[.int .i64 2, .int .i64 cl, .int .i64 n, .int .i64 tm, .int .i64 s, .int .i64 a, .int .i64 p, .int .i64 q, .int .i64 i] 68)
  have h9 := Blk.new (((w3.alloc (.cells #[.bool true, .bool false, .bool false, .bool true, .bool false] 81)).alloc (.cells #[.int .i64 2, .int .i64 cl, .int .i64 sq, .int .i64 tm, .int .i64 s, .int .i64 a, .int .i64 p, .int .i64 q, .int .i64 n] 68)).alloc (.cells #[.int .i64 2, .int .i64 cl, .int .i64 sq, .int .i64 tm, .int .i64 s, .int .i64 a, .int .i64 p, .int .i64 n, .int .i64 i] 68)) 68 #[.int .i64 2, .int .i64 cl, .int .i64 n, .int .i64 tm, .int .i64 s, .int .i64 a, .int .i64 p, .int .i64 q, .int .i64 i]
  simp only [World.size_alloc] at h8 h9
  repeat' ((fail_if_success (with_reducible refine stop_append rfl ?_)); (fail_if_success (with_reducible refine stop_copy rfl ?_)); first | go_values | go_skip | go_guarded | go_step | go_upon | (simp only []; go_at_K))
  refine (Ma _).mono ?_
  rintro ev w4 ⟨rfl, hu4⟩
  have k8 := h8.upd hu4 (by simp)
  have k9 := h9.upd hu4 (by simp)
  have U4 := hU.trans hu4
  clear b0 b1 b2 b3 b4 b5 b6 b7 b8 hB3 U3 h8 h9 hU hu4 Ma
  have b0 := k8.cell 0
  have b1 := k8.cell 1
  have b2 := k8.cell 2
  have b3 := k8.cell 3
  have b4 := k8.cell 4
  have b5 := k8.cell 5
  have b6 := k8.cell 6
  have b7 := k8.cell 7
  have b8 := k8.cell 8
  simp at b0 b1 b2 b3 b4 b5 b6 b7 b8
  repeat' ((fail_if_success (with_reducible refine stop_append rfl ?_)); (fail_if_success (with_reducible refine stop_copy rfl ?_)); first | go_values | go_skip | go_guarded | go_step | go_upon | (simp only []; go_at_K))
  refine (Mb _).mono ?_
  rintro ev w5 ⟨rfl, hu5⟩
  have k9 := k9.upd hu5 (by simp)
  have U5 := U4.trans hu5
  clear b0 b1 b2 b3 b4 b5 b6 b7 b8 k8 U4 hu5 Mb
  have b0 := k9.cell 0
  have b1 := k9.cell 1
  have b2 := k9.cell 2
  have b3 := k9.cell 3
  have b4 := k9.cell 4
  have b5 := k9.cell 5
  have b6 := k9.cell 6
  have b7 := k9.cell 7
  have b8 := k9.cell 8
  simp at b0 b1 b2 b3 b4 b5 b6 b7 b8
  repeat' ((fail_if_success (with_reducible refine stop_append rfl ?_)); (fail_if_success (with_reducible refine stop_copy rfl ?_)); first | go_values | go_skip | go_guarded | go_step | go_upon | (simp only []; go_at_K))
  refine (Md _).mono ?_
  rintro ev w6 ⟨rfl, hu6⟩
  repeat' ((fail_if_success (with_reducible refine stop_append rfl ?_)); (fail_if_success (with_reducible refine stop_copy rfl ?_)); first | go_values | go_skip | go_guarded | go_step | go_upon | (simp only []; go_at_K))
  go_ret
  exact ⟨rfl, U5.trans hu6⟩

end Go.Proofs.YtchlceolccfdhaaDoor
