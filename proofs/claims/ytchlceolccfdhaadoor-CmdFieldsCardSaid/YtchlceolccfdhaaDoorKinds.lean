/- agioref05.Uses at each kind; agiolaw05.CmdKinds, walked. -/
import Derived.Test.YtchlceolccfdhaaDoorCmd7
namespace Go.Proofs.YtchlceolccfdhaaDoor
open Go.RowKit Agio

set_option maxRecDepth 100000 in
set_option maxHeartbeats 1000000 in
theorem uses_k0 (w : World) : Calls Tryd.prog 44 #[.int .i64 0] w fun e w' => e = .returned (.agg #[.bool false, .bool false, .bool false, .bool false, .bool false]) ∧ Upd [] [] w w' := by
  go_enter Tryd.func44, Tryd.ntmps44
  repeat' ((fail_if_success (with_reducible refine stop_append rfl ?_)); (fail_if_success (with_reducible refine stop_copy rfl ?_)); first | go_values | go_skip | go_guarded | go_step | go_upon | (simp only []; go_at_K))
  refine bodyPost_ret (v := .agg #[.bool false, .bool false, .bool false, .bool false, .bool false]) (by simp [results, Tryd.results44, go_sem]) rfl ⟨rfl, ?_⟩
  repeat (first | exact Upd.refl _ _ | refine Upd.setCell ?_ (.inr (by simp)) _ | refine Upd.alloc ?_ _)

set_option maxRecDepth 100000 in
set_option maxHeartbeats 1000000 in
theorem uses_k1 (w : World) : Calls Tryd.prog 44 #[.int .i64 1] w fun e w' => e = .returned (.agg #[.bool true, .bool false, .bool true, .bool true, .bool false]) ∧ Upd [] [] w w' := by
  go_enter Tryd.func44, Tryd.ntmps44
  repeat' ((fail_if_success (with_reducible refine stop_append rfl ?_)); (fail_if_success (with_reducible refine stop_copy rfl ?_)); first | go_values | go_skip | go_guarded | go_step | go_upon | (simp only []; go_at_K))
  refine bodyPost_ret (v := .agg #[.bool true, .bool false, .bool true, .bool true, .bool false]) (by simp [results, Tryd.results44, go_sem]) rfl ⟨rfl, ?_⟩
  repeat (first | exact Upd.refl _ _ | refine Upd.setCell ?_ (.inr (by simp)) _ | refine Upd.alloc ?_ _)

set_option maxRecDepth 100000 in
set_option maxHeartbeats 1000000 in
theorem uses_k2 (w : World) : Calls Tryd.prog 44 #[.int .i64 2] w fun e w' => e = .returned (.agg #[.bool true, .bool false, .bool false, .bool true, .bool false]) ∧ Upd [] [] w w' := by
  go_enter Tryd.func44, Tryd.ntmps44
  repeat' ((fail_if_success (with_reducible refine stop_append rfl ?_)); (fail_if_success (with_reducible refine stop_copy rfl ?_)); first | go_values | go_skip | go_guarded | go_step | go_upon | (simp only []; go_at_K))
  refine bodyPost_ret (v := .agg #[.bool true, .bool false, .bool false, .bool true, .bool false]) (by simp [results, Tryd.results44, go_sem]) rfl ⟨rfl, ?_⟩
  repeat (first | exact Upd.refl _ _ | refine Upd.setCell ?_ (.inr (by simp)) _ | refine Upd.alloc ?_ _)

set_option maxRecDepth 100000 in
set_option maxHeartbeats 1000000 in
theorem uses_k3 (w : World) : Calls Tryd.prog 44 #[.int .i64 3] w fun e w' => e = .returned (.agg #[.bool true, .bool false, .bool true, .bool true, .bool false]) ∧ Upd [] [] w w' := by
  go_enter Tryd.func44, Tryd.ntmps44
  repeat' ((fail_if_success (with_reducible refine stop_append rfl ?_)); (fail_if_success (with_reducible refine stop_copy rfl ?_)); first | go_values | go_skip | go_guarded | go_step | go_upon | (simp only []; go_at_K))
  refine bodyPost_ret (v := .agg #[.bool true, .bool false, .bool true, .bool true, .bool false]) (by simp [results, Tryd.results44, go_sem]) rfl ⟨rfl, ?_⟩
  repeat (first | exact Upd.refl _ _ | refine Upd.setCell ?_ (.inr (by simp)) _ | refine Upd.alloc ?_ _)

set_option maxRecDepth 100000 in
set_option maxHeartbeats 1000000 in
theorem uses_k4 (w : World) : Calls Tryd.prog 44 #[.int .i64 4] w fun e w' => e = .returned (.agg #[.bool true, .bool false, .bool true, .bool true, .bool false]) ∧ Upd [] [] w w' := by
  go_enter Tryd.func44, Tryd.ntmps44
  repeat' ((fail_if_success (with_reducible refine stop_append rfl ?_)); (fail_if_success (with_reducible refine stop_copy rfl ?_)); first | go_values | go_skip | go_guarded | go_step | go_upon | (simp only []; go_at_K))
  refine bodyPost_ret (v := .agg #[.bool true, .bool false, .bool true, .bool true, .bool false]) (by simp [results, Tryd.results44, go_sem]) rfl ⟨rfl, ?_⟩
  repeat (first | exact Upd.refl _ _ | refine Upd.setCell ?_ (.inr (by simp)) _ | refine Upd.alloc ?_ _)

set_option maxRecDepth 100000 in
set_option maxHeartbeats 1000000 in
theorem uses_k5 (w : World) : Calls Tryd.prog 44 #[.int .i64 5] w fun e w' => e = .returned (.agg #[.bool true, .bool false, .bool true, .bool true, .bool false]) ∧ Upd [] [] w w' := by
  go_enter Tryd.func44, Tryd.ntmps44
  repeat' ((fail_if_success (with_reducible refine stop_append rfl ?_)); (fail_if_success (with_reducible refine stop_copy rfl ?_)); first | go_values | go_skip | go_guarded | go_step | go_upon | (simp only []; go_at_K))
  refine bodyPost_ret (v := .agg #[.bool true, .bool false, .bool true, .bool true, .bool false]) (by simp [results, Tryd.results44, go_sem]) rfl ⟨rfl, ?_⟩
  repeat (first | exact Upd.refl _ _ | refine Upd.setCell ?_ (.inr (by simp)) _ | refine Upd.alloc ?_ _)

set_option maxRecDepth 100000 in
set_option maxHeartbeats 1000000 in
theorem uses_k6 (w : World) : Calls Tryd.prog 44 #[.int .i64 6] w fun e w' => e = .returned (.agg #[.bool true, .bool false, .bool true, .bool true, .bool false]) ∧ Upd [] [] w w' := by
  go_enter Tryd.func44, Tryd.ntmps44
  repeat' ((fail_if_success (with_reducible refine stop_append rfl ?_)); (fail_if_success (with_reducible refine stop_copy rfl ?_)); first | go_values | go_skip | go_guarded | go_step | go_upon | (simp only []; go_at_K))
  refine bodyPost_ret (v := .agg #[.bool true, .bool false, .bool true, .bool true, .bool false]) (by simp [results, Tryd.results44, go_sem]) rfl ⟨rfl, ?_⟩
  repeat (first | exact Upd.refl _ _ | refine Upd.setCell ?_ (.inr (by simp)) _ | refine Upd.alloc ?_ _)

set_option maxRecDepth 100000 in
set_option maxHeartbeats 1000000 in
theorem uses_k7 (w : World) : Calls Tryd.prog 44 #[.int .i64 7] w fun e w' => e = .returned (.agg #[.bool false, .bool false, .bool false, .bool false, .bool true]) ∧ Upd [] [] w w' := by
  go_enter Tryd.func44, Tryd.ntmps44
  repeat' ((fail_if_success (with_reducible refine stop_append rfl ?_)); (fail_if_success (with_reducible refine stop_copy rfl ?_)); first | go_values | go_skip | go_guarded | go_step | go_upon | (simp only []; go_at_K))
  refine bodyPost_ret (v := .agg #[.bool false, .bool false, .bool false, .bool false, .bool true]) (by simp [results, Tryd.results44, go_sem]) rfl ⟨rfl, ?_⟩
  repeat (first | exact Upd.refl _ _ | refine Upd.setCell ?_ (.inr (by simp)) _ | refine Upd.alloc ?_ _)

set_option maxRecDepth 100000 in
set_option maxHeartbeats 1000000 in
theorem uses_k8 (w : World) : Calls Tryd.prog 44 #[.int .i64 8] w fun e w' => e = .returned (.agg #[.bool false, .bool false, .bool true, .bool true, .bool true]) ∧ Upd [] [] w w' := by
  go_enter Tryd.func44, Tryd.ntmps44
  repeat' ((fail_if_success (with_reducible refine stop_append rfl ?_)); (fail_if_success (with_reducible refine stop_copy rfl ?_)); first | go_values | go_skip | go_guarded | go_step | go_upon | (simp only []; go_at_K))
  refine bodyPost_ret (v := .agg #[.bool false, .bool false, .bool true, .bool true, .bool true]) (by simp [results, Tryd.results44, go_sem]) rfl ⟨rfl, ?_⟩
  repeat (first | exact Upd.refl _ _ | refine Upd.setCell ?_ (.inr (by simp)) _ | refine Upd.alloc ?_ _)

set_option maxRecDepth 100000 in
set_option maxHeartbeats 1000000 in
theorem uses_k9 (w : World) : Calls Tryd.prog 44 #[.int .i64 9] w fun e w' => e = .returned (.agg #[.bool false, .bool true, .bool false, .bool true, .bool false]) ∧ Upd [] [] w w' := by
  go_enter Tryd.func44, Tryd.ntmps44
  repeat' ((fail_if_success (with_reducible refine stop_append rfl ?_)); (fail_if_success (with_reducible refine stop_copy rfl ?_)); first | go_values | go_skip | go_guarded | go_step | go_upon | (simp only []; go_at_K))
  refine bodyPost_ret (v := .agg #[.bool false, .bool true, .bool false, .bool true, .bool false]) (by simp [results, Tryd.results44, go_sem]) rfl ⟨rfl, ?_⟩
  repeat (first | exact Upd.refl _ _ | refine Upd.setCell ?_ (.inr (by simp)) _ | refine Upd.alloc ?_ _)

set_option maxRecDepth 100000 in
set_option maxHeartbeats 1000000 in
theorem uses_k10 (w : World) : Calls Tryd.prog 44 #[.int .i64 10] w fun e w' => e = .returned (.agg #[.bool false, .bool true, .bool false, .bool true, .bool false]) ∧ Upd [] [] w w' := by
  go_enter Tryd.func44, Tryd.ntmps44
  repeat' ((fail_if_success (with_reducible refine stop_append rfl ?_)); (fail_if_success (with_reducible refine stop_copy rfl ?_)); first | go_values | go_skip | go_guarded | go_step | go_upon | (simp only []; go_at_K))
  refine bodyPost_ret (v := .agg #[.bool false, .bool true, .bool false, .bool true, .bool false]) (by simp [results, Tryd.results44, go_sem]) rfl ⟨rfl, ?_⟩
  repeat (first | exact Upd.refl _ _ | refine Upd.setCell ?_ (.inr (by simp)) _ | refine Upd.alloc ?_ _)

set_option maxRecDepth 100000 in
set_option maxHeartbeats 1000000 in
theorem uses_k11 (w : World) : Calls Tryd.prog 44 #[.int .i64 11] w fun e w' => e = .returned (.agg #[.bool false, .bool false, .bool true, .bool false, .bool false]) ∧ Upd [] [] w w' := by
  go_enter Tryd.func44, Tryd.ntmps44
  repeat' ((fail_if_success (with_reducible refine stop_append rfl ?_)); (fail_if_success (with_reducible refine stop_copy rfl ?_)); first | go_values | go_skip | go_guarded | go_step | go_upon | (simp only []; go_at_K))
  refine bodyPost_ret (v := .agg #[.bool false, .bool false, .bool true, .bool false, .bool false]) (by simp [results, Tryd.results44, go_sem]) rfl ⟨rfl, ?_⟩
  repeat (first | exact Upd.refl _ _ | refine Upd.setCell ?_ (.inr (by simp)) _ | refine Upd.alloc ?_ _)

set_option maxRecDepth 100000 in
set_option maxHeartbeats 4000000 in
theorem kinds_k0 (w : World) (hG : GoodG w) (cl : Int) (h1 : 1 ≤ cl) (h2 : cl ≤ 64) :
    Calls Tryd.prog 14 #[.int .i64 0, .int .i64 cl] w fun ev w' => ev = .returned (.bool true) ∧ Upd [] [] w w' := by
  have M := cmdMay (Cm.mk 0 cl 1 0 0 0 0 0 0)
  have hm : (Cm.mk 0 cl 1 0 0 0 0 0 0).may = true := by simp [Cm.may, wi, flds, h1, h2]
  rw [show (Cm.mk 0 cl 1 0 0 0 0 0 0).err = 0 by simp [Cm.err, hm]] at M
  simp only [Cm.val] at M
  clear hm
  go_enter Tryd.func14, Tryd.ntmps14
  repeat' ((fail_if_success (with_reducible refine stop_append rfl ?_)); (fail_if_success (with_reducible refine stop_copy rfl ?_)); first | go_values | go_skip | go_guarded | go_step | go_upon | (simp only []; go_at_K))
  refine (awake05 w hG).mono ?_
  rintro ev w1 ⟨rfl, hu1⟩
  repeat' ((fail_if_success (with_reducible refine stop_append rfl ?_)); (fail_if_success (with_reducible refine stop_copy rfl ?_)); first | go_values | go_skip | go_guarded | go_step | go_upon | (simp only []; go_at_K))
  have hB1 := Blk.new w1 68 #[.int .i64 0, .int .i64 cl, .int .i64 1, .int .i64 0, .int .i64 0, .int .i64 0, .int .i64 0, .int .i64 0, .int .i64 0]
  refine (uses_k0 _).mono ?_
  rintro ev w2 ⟨rfl, hu2⟩
  have hB2 := hB1.upd hu2 (by simp)
  have U2 : Upd [] [] w w2 := (hu1.alloc _).trans hu2
  have hlt := hB2.lt
  have b0 := hB2.cell 0
  have b1 := hB2.cell 1
  have b2 := hB2.cell 2
  have b3 := hB2.cell 3
  have b4 := hB2.cell 4
  have b5 := hB2.cell 5
  have b6 := hB2.cell 6
  have b7 := hB2.cell 7
  have b8 := hB2.cell 8
  simp at b0 b1 b2 b3 b4 b5 b6 b7 b8
  have f0 := hB2.frozen 0
  have f1 := hB2.frozen 1
  have f2 := hB2.frozen 2
  have f3 := hB2.frozen 3
  have f4 := hB2.frozen 4
  have f5 := hB2.frozen 5
  have f6 := hB2.frozen 6
  have f7 := hB2.frozen 7
  have f8 := hB2.frozen 8
  have hs1 := hu1.size
  clear hB1 hu1 hu2
  repeat' ((fail_if_success (with_reducible refine stop_append rfl ?_)); (fail_if_success (with_reducible refine stop_copy rfl ?_)); first | go_values | go_skip | go_guarded | go_step | go_upon | (simp only []; go_at_K))
  refine (M _).mono ?_
  rintro ev w3 ⟨rfl, hu3⟩
  repeat' ((fail_if_success (with_reducible refine stop_append rfl ?_)); (fail_if_success (with_reducible refine stop_copy rfl ?_)); first | go_values | go_skip | go_guarded | go_step | go_upon | (simp only []; go_at_K))
  go_ret
  refine ⟨rfl, Upd.trans ?_ hu3⟩
  have hle := U2.size
  have hsz := hB2.lt
  repeat (first | exact U2 | refine Upd.setCell ?_ (.inr ?_) _ | refine Upd.alloc ?_ _)
  all_goals exact hs1

set_option maxRecDepth 100000 in
set_option maxHeartbeats 4000000 in
theorem kinds_k1 (w : World) (hG : GoodG w) (cl : Int) (h1 : 1 ≤ cl) (h2 : cl ≤ 64) :
    Calls Tryd.prog 14 #[.int .i64 1, .int .i64 cl] w fun ev w' => ev = .returned (.bool true) ∧ Upd [] [] w w' := by
  have M := cmdMay (Cm.mk 1 cl 1 0 2 0 7 8 0)
  have hm : (Cm.mk 1 cl 1 0 2 0 7 8 0).may = true := by simp [Cm.may, wi, flds, h1, h2]
  rw [show (Cm.mk 1 cl 1 0 2 0 7 8 0).err = 0 by simp [Cm.err, hm]] at M
  simp only [Cm.val] at M
  clear hm
  go_enter Tryd.func14, Tryd.ntmps14
  repeat' ((fail_if_success (with_reducible refine stop_append rfl ?_)); (fail_if_success (with_reducible refine stop_copy rfl ?_)); first | go_values | go_skip | go_guarded | go_step | go_upon | (simp only []; go_at_K))
  refine (awake05 w hG).mono ?_
  rintro ev w1 ⟨rfl, hu1⟩
  repeat' ((fail_if_success (with_reducible refine stop_append rfl ?_)); (fail_if_success (with_reducible refine stop_copy rfl ?_)); first | go_values | go_skip | go_guarded | go_step | go_upon | (simp only []; go_at_K))
  have hB1 := Blk.new w1 68 #[.int .i64 1, .int .i64 cl, .int .i64 1, .int .i64 0, .int .i64 0, .int .i64 0, .int .i64 0, .int .i64 0, .int .i64 0]
  refine (uses_k1 _).mono ?_
  rintro ev w2 ⟨rfl, hu2⟩
  have hB2 := hB1.upd hu2 (by simp)
  have U2 : Upd [] [] w w2 := (hu1.alloc _).trans hu2
  have hlt := hB2.lt
  have b0 := hB2.cell 0
  have b1 := hB2.cell 1
  have b2 := hB2.cell 2
  have b3 := hB2.cell 3
  have b4 := hB2.cell 4
  have b5 := hB2.cell 5
  have b6 := hB2.cell 6
  have b7 := hB2.cell 7
  have b8 := hB2.cell 8
  simp at b0 b1 b2 b3 b4 b5 b6 b7 b8
  have f0 := hB2.frozen 0
  have f1 := hB2.frozen 1
  have f2 := hB2.frozen 2
  have f3 := hB2.frozen 3
  have f4 := hB2.frozen 4
  have f5 := hB2.frozen 5
  have f6 := hB2.frozen 6
  have f7 := hB2.frozen 7
  have f8 := hB2.frozen 8
  have hs1 := hu1.size
  clear hB1 hu1 hu2
  repeat' ((fail_if_success (with_reducible refine stop_append rfl ?_)); (fail_if_success (with_reducible refine stop_copy rfl ?_)); first | go_values | go_skip | go_guarded | go_step | go_upon | (simp only []; go_at_K))
  refine (M _).mono ?_
  rintro ev w3 ⟨rfl, hu3⟩
  repeat' ((fail_if_success (with_reducible refine stop_append rfl ?_)); (fail_if_success (with_reducible refine stop_copy rfl ?_)); first | go_values | go_skip | go_guarded | go_step | go_upon | (simp only []; go_at_K))
  go_ret
  refine ⟨rfl, Upd.trans ?_ hu3⟩
  have hle := U2.size
  have hsz := hB2.lt
  repeat (first | exact U2 | refine Upd.setCell ?_ (.inr ?_) _ | refine Upd.alloc ?_ _)
  all_goals exact hs1

set_option maxRecDepth 100000 in
set_option maxHeartbeats 4000000 in
theorem kinds_k2 (w : World) (hG : GoodG w) (cl : Int) (h1 : 1 ≤ cl) (h2 : cl ≤ 64) :
    Calls Tryd.prog 14 #[.int .i64 2, .int .i64 cl] w fun ev w' => ev = .returned (.bool true) ∧ Upd [] [] w w' := by
  have M := cmdMay (Cm.mk 2 cl 1 0 2 0 0 8 0)
  have hm : (Cm.mk 2 cl 1 0 2 0 0 8 0).may = true := by simp [Cm.may, wi, flds, h1, h2]
  rw [show (Cm.mk 2 cl 1 0 2 0 0 8 0).err = 0 by simp [Cm.err, hm]] at M
  simp only [Cm.val] at M
  clear hm
  go_enter Tryd.func14, Tryd.ntmps14
  repeat' ((fail_if_success (with_reducible refine stop_append rfl ?_)); (fail_if_success (with_reducible refine stop_copy rfl ?_)); first | go_values | go_skip | go_guarded | go_step | go_upon | (simp only []; go_at_K))
  refine (awake05 w hG).mono ?_
  rintro ev w1 ⟨rfl, hu1⟩
  repeat' ((fail_if_success (with_reducible refine stop_append rfl ?_)); (fail_if_success (with_reducible refine stop_copy rfl ?_)); first | go_values | go_skip | go_guarded | go_step | go_upon | (simp only []; go_at_K))
  have hB1 := Blk.new w1 68 #[.int .i64 2, .int .i64 cl, .int .i64 1, .int .i64 0, .int .i64 0, .int .i64 0, .int .i64 0, .int .i64 0, .int .i64 0]
  refine (uses_k2 _).mono ?_
  rintro ev w2 ⟨rfl, hu2⟩
  have hB2 := hB1.upd hu2 (by simp)
  have U2 : Upd [] [] w w2 := (hu1.alloc _).trans hu2
  have hlt := hB2.lt
  have b0 := hB2.cell 0
  have b1 := hB2.cell 1
  have b2 := hB2.cell 2
  have b3 := hB2.cell 3
  have b4 := hB2.cell 4
  have b5 := hB2.cell 5
  have b6 := hB2.cell 6
  have b7 := hB2.cell 7
  have b8 := hB2.cell 8
  simp at b0 b1 b2 b3 b4 b5 b6 b7 b8
  have f0 := hB2.frozen 0
  have f1 := hB2.frozen 1
  have f2 := hB2.frozen 2
  have f3 := hB2.frozen 3
  have f4 := hB2.frozen 4
  have f5 := hB2.frozen 5
  have f6 := hB2.frozen 6
  have f7 := hB2.frozen 7
  have f8 := hB2.frozen 8
  have hs1 := hu1.size
  clear hB1 hu1 hu2
  repeat' ((fail_if_success (with_reducible refine stop_append rfl ?_)); (fail_if_success (with_reducible refine stop_copy rfl ?_)); first | go_values | go_skip | go_guarded | go_step | go_upon | (simp only []; go_at_K))
  refine (M _).mono ?_
  rintro ev w3 ⟨rfl, hu3⟩
  repeat' ((fail_if_success (with_reducible refine stop_append rfl ?_)); (fail_if_success (with_reducible refine stop_copy rfl ?_)); first | go_values | go_skip | go_guarded | go_step | go_upon | (simp only []; go_at_K))
  go_ret
  refine ⟨rfl, Upd.trans ?_ hu3⟩
  have hle := U2.size
  have hsz := hB2.lt
  repeat (first | exact U2 | refine Upd.setCell ?_ (.inr ?_) _ | refine Upd.alloc ?_ _)
  all_goals exact hs1

set_option maxRecDepth 100000 in
set_option maxHeartbeats 4000000 in
theorem kinds_k3 (w : World) (hG : GoodG w) (cl : Int) (h1 : 1 ≤ cl) (h2 : cl ≤ 64) :
    Calls Tryd.prog 14 #[.int .i64 3, .int .i64 cl] w fun ev w' => ev = .returned (.bool true) ∧ Upd [] [] w w' := by
  have M := cmdMay (Cm.mk 3 cl 1 0 2 0 7 8 0)
  have hm : (Cm.mk 3 cl 1 0 2 0 7 8 0).may = true := by simp [Cm.may, wi, flds, h1, h2]
  rw [show (Cm.mk 3 cl 1 0 2 0 7 8 0).err = 0 by simp [Cm.err, hm]] at M
  simp only [Cm.val] at M
  clear hm
  go_enter Tryd.func14, Tryd.ntmps14
  repeat' ((fail_if_success (with_reducible refine stop_append rfl ?_)); (fail_if_success (with_reducible refine stop_copy rfl ?_)); first | go_values | go_skip | go_guarded | go_step | go_upon | (simp only []; go_at_K))
  refine (awake05 w hG).mono ?_
  rintro ev w1 ⟨rfl, hu1⟩
  repeat' ((fail_if_success (with_reducible refine stop_append rfl ?_)); (fail_if_success (with_reducible refine stop_copy rfl ?_)); first | go_values | go_skip | go_guarded | go_step | go_upon | (simp only []; go_at_K))
  have hB1 := Blk.new w1 68 #[.int .i64 3, .int .i64 cl, .int .i64 1, .int .i64 0, .int .i64 0, .int .i64 0, .int .i64 0, .int .i64 0, .int .i64 0]
  refine (uses_k3 _).mono ?_
  rintro ev w2 ⟨rfl, hu2⟩
  have hB2 := hB1.upd hu2 (by simp)
  have U2 : Upd [] [] w w2 := (hu1.alloc _).trans hu2
  have hlt := hB2.lt
  have b0 := hB2.cell 0
  have b1 := hB2.cell 1
  have b2 := hB2.cell 2
  have b3 := hB2.cell 3
  have b4 := hB2.cell 4
  have b5 := hB2.cell 5
  have b6 := hB2.cell 6
  have b7 := hB2.cell 7
  have b8 := hB2.cell 8
  simp at b0 b1 b2 b3 b4 b5 b6 b7 b8
  have f0 := hB2.frozen 0
  have f1 := hB2.frozen 1
  have f2 := hB2.frozen 2
  have f3 := hB2.frozen 3
  have f4 := hB2.frozen 4
  have f5 := hB2.frozen 5
  have f6 := hB2.frozen 6
  have f7 := hB2.frozen 7
  have f8 := hB2.frozen 8
  have hs1 := hu1.size
  clear hB1 hu1 hu2
  repeat' ((fail_if_success (with_reducible refine stop_append rfl ?_)); (fail_if_success (with_reducible refine stop_copy rfl ?_)); first | go_values | go_skip | go_guarded | go_step | go_upon | (simp only []; go_at_K))
  refine (M _).mono ?_
  rintro ev w3 ⟨rfl, hu3⟩
  repeat' ((fail_if_success (with_reducible refine stop_append rfl ?_)); (fail_if_success (with_reducible refine stop_copy rfl ?_)); first | go_values | go_skip | go_guarded | go_step | go_upon | (simp only []; go_at_K))
  go_ret
  refine ⟨rfl, Upd.trans ?_ hu3⟩
  have hle := U2.size
  have hsz := hB2.lt
  repeat (first | exact U2 | refine Upd.setCell ?_ (.inr ?_) _ | refine Upd.alloc ?_ _)
  all_goals exact hs1

set_option maxRecDepth 100000 in
set_option maxHeartbeats 4000000 in
theorem kinds_k4 (w : World) (hG : GoodG w) (cl : Int) (h1 : 1 ≤ cl) (h2 : cl ≤ 64) :
    Calls Tryd.prog 14 #[.int .i64 4, .int .i64 cl] w fun ev w' => ev = .returned (.bool true) ∧ Upd [] [] w w' := by
  have M := cmdMay (Cm.mk 4 cl 1 0 2 0 7 8 0)
  have hm : (Cm.mk 4 cl 1 0 2 0 7 8 0).may = true := by simp [Cm.may, wi, flds, h1, h2]
  rw [show (Cm.mk 4 cl 1 0 2 0 7 8 0).err = 0 by simp [Cm.err, hm]] at M
  simp only [Cm.val] at M
  clear hm
  go_enter Tryd.func14, Tryd.ntmps14
  repeat' ((fail_if_success (with_reducible refine stop_append rfl ?_)); (fail_if_success (with_reducible refine stop_copy rfl ?_)); first | go_values | go_skip | go_guarded | go_step | go_upon | (simp only []; go_at_K))
  refine (awake05 w hG).mono ?_
  rintro ev w1 ⟨rfl, hu1⟩
  repeat' ((fail_if_success (with_reducible refine stop_append rfl ?_)); (fail_if_success (with_reducible refine stop_copy rfl ?_)); first | go_values | go_skip | go_guarded | go_step | go_upon | (simp only []; go_at_K))
  have hB1 := Blk.new w1 68 #[.int .i64 4, .int .i64 cl, .int .i64 1, .int .i64 0, .int .i64 0, .int .i64 0, .int .i64 0, .int .i64 0, .int .i64 0]
  refine (uses_k4 _).mono ?_
  rintro ev w2 ⟨rfl, hu2⟩
  have hB2 := hB1.upd hu2 (by simp)
  have U2 : Upd [] [] w w2 := (hu1.alloc _).trans hu2
  have hlt := hB2.lt
  have b0 := hB2.cell 0
  have b1 := hB2.cell 1
  have b2 := hB2.cell 2
  have b3 := hB2.cell 3
  have b4 := hB2.cell 4
  have b5 := hB2.cell 5
  have b6 := hB2.cell 6
  have b7 := hB2.cell 7
  have b8 := hB2.cell 8
  simp at b0 b1 b2 b3 b4 b5 b6 b7 b8
  have f0 := hB2.frozen 0
  have f1 := hB2.frozen 1
  have f2 := hB2.frozen 2
  have f3 := hB2.frozen 3
  have f4 := hB2.frozen 4
  have f5 := hB2.frozen 5
  have f6 := hB2.frozen 6
  have f7 := hB2.frozen 7
  have f8 := hB2.frozen 8
  have hs1 := hu1.size
  clear hB1 hu1 hu2
  repeat' ((fail_if_success (with_reducible refine stop_append rfl ?_)); (fail_if_success (with_reducible refine stop_copy rfl ?_)); first | go_values | go_skip | go_guarded | go_step | go_upon | (simp only []; go_at_K))
  refine (M _).mono ?_
  rintro ev w3 ⟨rfl, hu3⟩
  repeat' ((fail_if_success (with_reducible refine stop_append rfl ?_)); (fail_if_success (with_reducible refine stop_copy rfl ?_)); first | go_values | go_skip | go_guarded | go_step | go_upon | (simp only []; go_at_K))
  go_ret
  refine ⟨rfl, Upd.trans ?_ hu3⟩
  have hle := U2.size
  have hsz := hB2.lt
  repeat (first | exact U2 | refine Upd.setCell ?_ (.inr ?_) _ | refine Upd.alloc ?_ _)
  all_goals exact hs1

set_option maxRecDepth 100000 in
set_option maxHeartbeats 4000000 in
theorem kinds_k5 (w : World) (hG : GoodG w) (cl : Int) (h1 : 1 ≤ cl) (h2 : cl ≤ 64) :
    Calls Tryd.prog 14 #[.int .i64 5, .int .i64 cl] w fun ev w' => ev = .returned (.bool true) ∧ Upd [] [] w w' := by
  have M := cmdMay (Cm.mk 5 cl 1 0 2 0 7 8 0)
  have hm : (Cm.mk 5 cl 1 0 2 0 7 8 0).may = true := by simp [Cm.may, wi, flds, h1, h2]
  rw [show (Cm.mk 5 cl 1 0 2 0 7 8 0).err = 0 by simp [Cm.err, hm]] at M
  simp only [Cm.val] at M
  clear hm
  go_enter Tryd.func14, Tryd.ntmps14
  repeat' ((fail_if_success (with_reducible refine stop_append rfl ?_)); (fail_if_success (with_reducible refine stop_copy rfl ?_)); first | go_values | go_skip | go_guarded | go_step | go_upon | (simp only []; go_at_K))
  refine (awake05 w hG).mono ?_
  rintro ev w1 ⟨rfl, hu1⟩
  repeat' ((fail_if_success (with_reducible refine stop_append rfl ?_)); (fail_if_success (with_reducible refine stop_copy rfl ?_)); first | go_values | go_skip | go_guarded | go_step | go_upon | (simp only []; go_at_K))
  have hB1 := Blk.new w1 68 #[.int .i64 5, .int .i64 cl, .int .i64 1, .int .i64 0, .int .i64 0, .int .i64 0, .int .i64 0, .int .i64 0, .int .i64 0]
  refine (uses_k5 _).mono ?_
  rintro ev w2 ⟨rfl, hu2⟩
  have hB2 := hB1.upd hu2 (by simp)
  have U2 : Upd [] [] w w2 := (hu1.alloc _).trans hu2
  have hlt := hB2.lt
  have b0 := hB2.cell 0
  have b1 := hB2.cell 1
  have b2 := hB2.cell 2
  have b3 := hB2.cell 3
  have b4 := hB2.cell 4
  have b5 := hB2.cell 5
  have b6 := hB2.cell 6
  have b7 := hB2.cell 7
  have b8 := hB2.cell 8
  simp at b0 b1 b2 b3 b4 b5 b6 b7 b8
  have f0 := hB2.frozen 0
  have f1 := hB2.frozen 1
  have f2 := hB2.frozen 2
  have f3 := hB2.frozen 3
  have f4 := hB2.frozen 4
  have f5 := hB2.frozen 5
  have f6 := hB2.frozen 6
  have f7 := hB2.frozen 7
  have f8 := hB2.frozen 8
  have hs1 := hu1.size
  clear hB1 hu1 hu2
  repeat' ((fail_if_success (with_reducible refine stop_append rfl ?_)); (fail_if_success (with_reducible refine stop_copy rfl ?_)); first | go_values | go_skip | go_guarded | go_step | go_upon | (simp only []; go_at_K))
  refine (M _).mono ?_
  rintro ev w3 ⟨rfl, hu3⟩
  repeat' ((fail_if_success (with_reducible refine stop_append rfl ?_)); (fail_if_success (with_reducible refine stop_copy rfl ?_)); first | go_values | go_skip | go_guarded | go_step | go_upon | (simp only []; go_at_K))
  go_ret
  refine ⟨rfl, Upd.trans ?_ hu3⟩
  have hle := U2.size
  have hsz := hB2.lt
  repeat (first | exact U2 | refine Upd.setCell ?_ (.inr ?_) _ | refine Upd.alloc ?_ _)
  all_goals exact hs1

set_option maxRecDepth 100000 in
set_option maxHeartbeats 4000000 in
theorem kinds_k6 (w : World) (hG : GoodG w) (cl : Int) (h1 : 1 ≤ cl) (h2 : cl ≤ 64) :
    Calls Tryd.prog 14 #[.int .i64 6, .int .i64 cl] w fun ev w' => ev = .returned (.bool true) ∧ Upd [] [] w w' := by
  have M := cmdMay (Cm.mk 6 cl 1 0 2 0 7 8 0)
  have hm : (Cm.mk 6 cl 1 0 2 0 7 8 0).may = true := by simp [Cm.may, wi, flds, h1, h2]
  rw [show (Cm.mk 6 cl 1 0 2 0 7 8 0).err = 0 by simp [Cm.err, hm]] at M
  simp only [Cm.val] at M
  clear hm
  go_enter Tryd.func14, Tryd.ntmps14
  repeat' ((fail_if_success (with_reducible refine stop_append rfl ?_)); (fail_if_success (with_reducible refine stop_copy rfl ?_)); first | go_values | go_skip | go_guarded | go_step | go_upon | (simp only []; go_at_K))
  refine (awake05 w hG).mono ?_
  rintro ev w1 ⟨rfl, hu1⟩
  repeat' ((fail_if_success (with_reducible refine stop_append rfl ?_)); (fail_if_success (with_reducible refine stop_copy rfl ?_)); first | go_values | go_skip | go_guarded | go_step | go_upon | (simp only []; go_at_K))
  have hB1 := Blk.new w1 68 #[.int .i64 6, .int .i64 cl, .int .i64 1, .int .i64 0, .int .i64 0, .int .i64 0, .int .i64 0, .int .i64 0, .int .i64 0]
  refine (uses_k6 _).mono ?_
  rintro ev w2 ⟨rfl, hu2⟩
  have hB2 := hB1.upd hu2 (by simp)
  have U2 : Upd [] [] w w2 := (hu1.alloc _).trans hu2
  have hlt := hB2.lt
  have b0 := hB2.cell 0
  have b1 := hB2.cell 1
  have b2 := hB2.cell 2
  have b3 := hB2.cell 3
  have b4 := hB2.cell 4
  have b5 := hB2.cell 5
  have b6 := hB2.cell 6
  have b7 := hB2.cell 7
  have b8 := hB2.cell 8
  simp at b0 b1 b2 b3 b4 b5 b6 b7 b8
  have f0 := hB2.frozen 0
  have f1 := hB2.frozen 1
  have f2 := hB2.frozen 2
  have f3 := hB2.frozen 3
  have f4 := hB2.frozen 4
  have f5 := hB2.frozen 5
  have f6 := hB2.frozen 6
  have f7 := hB2.frozen 7
  have f8 := hB2.frozen 8
  have hs1 := hu1.size
  clear hB1 hu1 hu2
  repeat' ((fail_if_success (with_reducible refine stop_append rfl ?_)); (fail_if_success (with_reducible refine stop_copy rfl ?_)); first | go_values | go_skip | go_guarded | go_step | go_upon | (simp only []; go_at_K))
  refine (M _).mono ?_
  rintro ev w3 ⟨rfl, hu3⟩
  repeat' ((fail_if_success (with_reducible refine stop_append rfl ?_)); (fail_if_success (with_reducible refine stop_copy rfl ?_)); first | go_values | go_skip | go_guarded | go_step | go_upon | (simp only []; go_at_K))
  go_ret
  refine ⟨rfl, Upd.trans ?_ hu3⟩
  have hle := U2.size
  have hsz := hB2.lt
  repeat (first | exact U2 | refine Upd.setCell ?_ (.inr ?_) _ | refine Upd.alloc ?_ _)
  all_goals exact hs1

set_option maxRecDepth 100000 in
set_option maxHeartbeats 4000000 in
theorem kinds_k7 (w : World) (hG : GoodG w) (cl : Int) (h1 : 1 ≤ cl) (h2 : cl ≤ 64) :
    Calls Tryd.prog 14 #[.int .i64 7, .int .i64 cl] w fun ev w' => ev = .returned (.bool true) ∧ Upd [] [] w w' := by
  have M := cmdMay (Cm.mk 7 cl 1 0 0 0 0 0 9)
  have hm : (Cm.mk 7 cl 1 0 0 0 0 0 9).may = true := by simp [Cm.may, wi, flds, h1, h2]
  rw [show (Cm.mk 7 cl 1 0 0 0 0 0 9).err = 0 by simp [Cm.err, hm]] at M
  simp only [Cm.val] at M
  clear hm
  go_enter Tryd.func14, Tryd.ntmps14
  repeat' ((fail_if_success (with_reducible refine stop_append rfl ?_)); (fail_if_success (with_reducible refine stop_copy rfl ?_)); first | go_values | go_skip | go_guarded | go_step | go_upon | (simp only []; go_at_K))
  refine (awake05 w hG).mono ?_
  rintro ev w1 ⟨rfl, hu1⟩
  repeat' ((fail_if_success (with_reducible refine stop_append rfl ?_)); (fail_if_success (with_reducible refine stop_copy rfl ?_)); first | go_values | go_skip | go_guarded | go_step | go_upon | (simp only []; go_at_K))
  have hB1 := Blk.new w1 68 #[.int .i64 7, .int .i64 cl, .int .i64 1, .int .i64 0, .int .i64 0, .int .i64 0, .int .i64 0, .int .i64 0, .int .i64 0]
  refine (uses_k7 _).mono ?_
  rintro ev w2 ⟨rfl, hu2⟩
  have hB2 := hB1.upd hu2 (by simp)
  have U2 : Upd [] [] w w2 := (hu1.alloc _).trans hu2
  have hlt := hB2.lt
  have b0 := hB2.cell 0
  have b1 := hB2.cell 1
  have b2 := hB2.cell 2
  have b3 := hB2.cell 3
  have b4 := hB2.cell 4
  have b5 := hB2.cell 5
  have b6 := hB2.cell 6
  have b7 := hB2.cell 7
  have b8 := hB2.cell 8
  simp at b0 b1 b2 b3 b4 b5 b6 b7 b8
  have f0 := hB2.frozen 0
  have f1 := hB2.frozen 1
  have f2 := hB2.frozen 2
  have f3 := hB2.frozen 3
  have f4 := hB2.frozen 4
  have f5 := hB2.frozen 5
  have f6 := hB2.frozen 6
  have f7 := hB2.frozen 7
  have f8 := hB2.frozen 8
  have hs1 := hu1.size
  clear hB1 hu1 hu2
  repeat' ((fail_if_success (with_reducible refine stop_append rfl ?_)); (fail_if_success (with_reducible refine stop_copy rfl ?_)); first | go_values | go_skip | go_guarded | go_step | go_upon | (simp only []; go_at_K))
  refine (M _).mono ?_
  rintro ev w3 ⟨rfl, hu3⟩
  repeat' ((fail_if_success (with_reducible refine stop_append rfl ?_)); (fail_if_success (with_reducible refine stop_copy rfl ?_)); first | go_values | go_skip | go_guarded | go_step | go_upon | (simp only []; go_at_K))
  go_ret
  refine ⟨rfl, Upd.trans ?_ hu3⟩
  have hle := U2.size
  have hsz := hB2.lt
  repeat (first | exact U2 | refine Upd.setCell ?_ (.inr ?_) _ | refine Upd.alloc ?_ _)
  all_goals exact hs1

set_option maxRecDepth 100000 in
set_option maxHeartbeats 4000000 in
theorem kinds_k8 (w : World) (hG : GoodG w) (cl : Int) (h1 : 1 ≤ cl) (h2 : cl ≤ 64) :
    Calls Tryd.prog 14 #[.int .i64 8, .int .i64 cl] w fun ev w' => ev = .returned (.bool true) ∧ Upd [] [] w w' := by
  have M := cmdMay (Cm.mk 8 cl 1 0 0 0 7 8 9)
  have hm : (Cm.mk 8 cl 1 0 0 0 7 8 9).may = true := by simp [Cm.may, wi, flds, h1, h2]
  rw [show (Cm.mk 8 cl 1 0 0 0 7 8 9).err = 0 by simp [Cm.err, hm]] at M
  simp only [Cm.val] at M
  clear hm
  go_enter Tryd.func14, Tryd.ntmps14
  repeat' ((fail_if_success (with_reducible refine stop_append rfl ?_)); (fail_if_success (with_reducible refine stop_copy rfl ?_)); first | go_values | go_skip | go_guarded | go_step | go_upon | (simp only []; go_at_K))
  refine (awake05 w hG).mono ?_
  rintro ev w1 ⟨rfl, hu1⟩
  repeat' ((fail_if_success (with_reducible refine stop_append rfl ?_)); (fail_if_success (with_reducible refine stop_copy rfl ?_)); first | go_values | go_skip | go_guarded | go_step | go_upon | (simp only []; go_at_K))
  have hB1 := Blk.new w1 68 #[.int .i64 8, .int .i64 cl, .int .i64 1, .int .i64 0, .int .i64 0, .int .i64 0, .int .i64 0, .int .i64 0, .int .i64 0]
  refine (uses_k8 _).mono ?_
  rintro ev w2 ⟨rfl, hu2⟩
  have hB2 := hB1.upd hu2 (by simp)
  have U2 : Upd [] [] w w2 := (hu1.alloc _).trans hu2
  have hlt := hB2.lt
  have b0 := hB2.cell 0
  have b1 := hB2.cell 1
  have b2 := hB2.cell 2
  have b3 := hB2.cell 3
  have b4 := hB2.cell 4
  have b5 := hB2.cell 5
  have b6 := hB2.cell 6
  have b7 := hB2.cell 7
  have b8 := hB2.cell 8
  simp at b0 b1 b2 b3 b4 b5 b6 b7 b8
  have f0 := hB2.frozen 0
  have f1 := hB2.frozen 1
  have f2 := hB2.frozen 2
  have f3 := hB2.frozen 3
  have f4 := hB2.frozen 4
  have f5 := hB2.frozen 5
  have f6 := hB2.frozen 6
  have f7 := hB2.frozen 7
  have f8 := hB2.frozen 8
  have hs1 := hu1.size
  clear hB1 hu1 hu2
  repeat' ((fail_if_success (with_reducible refine stop_append rfl ?_)); (fail_if_success (with_reducible refine stop_copy rfl ?_)); first | go_values | go_skip | go_guarded | go_step | go_upon | (simp only []; go_at_K))
  refine (M _).mono ?_
  rintro ev w3 ⟨rfl, hu3⟩
  repeat' ((fail_if_success (with_reducible refine stop_append rfl ?_)); (fail_if_success (with_reducible refine stop_copy rfl ?_)); first | go_values | go_skip | go_guarded | go_step | go_upon | (simp only []; go_at_K))
  go_ret
  refine ⟨rfl, Upd.trans ?_ hu3⟩
  have hle := U2.size
  have hsz := hB2.lt
  repeat (first | exact U2 | refine Upd.setCell ?_ (.inr ?_) _ | refine Upd.alloc ?_ _)
  all_goals exact hs1

set_option maxRecDepth 100000 in
set_option maxHeartbeats 4000000 in
theorem kinds_k9 (w : World) (hG : GoodG w) (cl : Int) (h1 : 1 ≤ cl) (h2 : cl ≤ 64) :
    Calls Tryd.prog 14 #[.int .i64 9, .int .i64 cl] w fun ev w' => ev = .returned (.bool true) ∧ Upd [] [] w w' := by
  have M := cmdMay (Cm.mk 9 cl 1 0 0 0 0 8 0)
  have hm : (Cm.mk 9 cl 1 0 0 0 0 8 0).may = true := by simp [Cm.may, wi, flds, h1, h2]
  rw [show (Cm.mk 9 cl 1 0 0 0 0 8 0).err = 0 by simp [Cm.err, hm]] at M
  simp only [Cm.val] at M
  clear hm
  go_enter Tryd.func14, Tryd.ntmps14
  repeat' ((fail_if_success (with_reducible refine stop_append rfl ?_)); (fail_if_success (with_reducible refine stop_copy rfl ?_)); first | go_values | go_skip | go_guarded | go_step | go_upon | (simp only []; go_at_K))
  refine (awake05 w hG).mono ?_
  rintro ev w1 ⟨rfl, hu1⟩
  repeat' ((fail_if_success (with_reducible refine stop_append rfl ?_)); (fail_if_success (with_reducible refine stop_copy rfl ?_)); first | go_values | go_skip | go_guarded | go_step | go_upon | (simp only []; go_at_K))
  have hB1 := Blk.new w1 68 #[.int .i64 9, .int .i64 cl, .int .i64 1, .int .i64 0, .int .i64 0, .int .i64 0, .int .i64 0, .int .i64 0, .int .i64 0]
  refine (uses_k9 _).mono ?_
  rintro ev w2 ⟨rfl, hu2⟩
  have hB2 := hB1.upd hu2 (by simp)
  have U2 : Upd [] [] w w2 := (hu1.alloc _).trans hu2
  have hlt := hB2.lt
  have b0 := hB2.cell 0
  have b1 := hB2.cell 1
  have b2 := hB2.cell 2
  have b3 := hB2.cell 3
  have b4 := hB2.cell 4
  have b5 := hB2.cell 5
  have b6 := hB2.cell 6
  have b7 := hB2.cell 7
  have b8 := hB2.cell 8
  simp at b0 b1 b2 b3 b4 b5 b6 b7 b8
  have f0 := hB2.frozen 0
  have f1 := hB2.frozen 1
  have f2 := hB2.frozen 2
  have f3 := hB2.frozen 3
  have f4 := hB2.frozen 4
  have f5 := hB2.frozen 5
  have f6 := hB2.frozen 6
  have f7 := hB2.frozen 7
  have f8 := hB2.frozen 8
  have hs1 := hu1.size
  clear hB1 hu1 hu2
  repeat' ((fail_if_success (with_reducible refine stop_append rfl ?_)); (fail_if_success (with_reducible refine stop_copy rfl ?_)); first | go_values | go_skip | go_guarded | go_step | go_upon | (simp only []; go_at_K))
  refine (M _).mono ?_
  rintro ev w3 ⟨rfl, hu3⟩
  repeat' ((fail_if_success (with_reducible refine stop_append rfl ?_)); (fail_if_success (with_reducible refine stop_copy rfl ?_)); first | go_values | go_skip | go_guarded | go_step | go_upon | (simp only []; go_at_K))
  go_ret
  refine ⟨rfl, Upd.trans ?_ hu3⟩
  have hle := U2.size
  have hsz := hB2.lt
  repeat (first | exact U2 | refine Upd.setCell ?_ (.inr ?_) _ | refine Upd.alloc ?_ _)
  all_goals exact hs1

set_option maxRecDepth 100000 in
set_option maxHeartbeats 4000000 in
theorem kinds_k10 (w : World) (hG : GoodG w) (cl : Int) (h1 : 1 ≤ cl) (h2 : cl ≤ 64) :
    Calls Tryd.prog 14 #[.int .i64 10, .int .i64 cl] w fun ev w' => ev = .returned (.bool true) ∧ Upd [] [] w w' := by
  have M := cmdMay (Cm.mk 10 cl 1 0 0 0 0 8 0)
  have hm : (Cm.mk 10 cl 1 0 0 0 0 8 0).may = true := by simp [Cm.may, wi, flds, h1, h2]
  rw [show (Cm.mk 10 cl 1 0 0 0 0 8 0).err = 0 by simp [Cm.err, hm]] at M
  simp only [Cm.val] at M
  clear hm
  go_enter Tryd.func14, Tryd.ntmps14
  repeat' ((fail_if_success (with_reducible refine stop_append rfl ?_)); (fail_if_success (with_reducible refine stop_copy rfl ?_)); first | go_values | go_skip | go_guarded | go_step | go_upon | (simp only []; go_at_K))
  refine (awake05 w hG).mono ?_
  rintro ev w1 ⟨rfl, hu1⟩
  repeat' ((fail_if_success (with_reducible refine stop_append rfl ?_)); (fail_if_success (with_reducible refine stop_copy rfl ?_)); first | go_values | go_skip | go_guarded | go_step | go_upon | (simp only []; go_at_K))
  have hB1 := Blk.new w1 68 #[.int .i64 10, .int .i64 cl, .int .i64 1, .int .i64 0, .int .i64 0, .int .i64 0, .int .i64 0, .int .i64 0, .int .i64 0]
  refine (uses_k10 _).mono ?_
  rintro ev w2 ⟨rfl, hu2⟩
  have hB2 := hB1.upd hu2 (by simp)
  have U2 : Upd [] [] w w2 := (hu1.alloc _).trans hu2
  have hlt := hB2.lt
  have b0 := hB2.cell 0
  have b1 := hB2.cell 1
  have b2 := hB2.cell 2
  have b3 := hB2.cell 3
  have b4 := hB2.cell 4
  have b5 := hB2.cell 5
  have b6 := hB2.cell 6
  have b7 := hB2.cell 7
  have b8 := hB2.cell 8
  simp at b0 b1 b2 b3 b4 b5 b6 b7 b8
  have f0 := hB2.frozen 0
  have f1 := hB2.frozen 1
  have f2 := hB2.frozen 2
  have f3 := hB2.frozen 3
  have f4 := hB2.frozen 4
  have f5 := hB2.frozen 5
  have f6 := hB2.frozen 6
  have f7 := hB2.frozen 7
  have f8 := hB2.frozen 8
  have hs1 := hu1.size
  clear hB1 hu1 hu2
  repeat' ((fail_if_success (with_reducible refine stop_append rfl ?_)); (fail_if_success (with_reducible refine stop_copy rfl ?_)); first | go_values | go_skip | go_guarded | go_step | go_upon | (simp only []; go_at_K))
  refine (M _).mono ?_
  rintro ev w3 ⟨rfl, hu3⟩
  repeat' ((fail_if_success (with_reducible refine stop_append rfl ?_)); (fail_if_success (with_reducible refine stop_copy rfl ?_)); first | go_values | go_skip | go_guarded | go_step | go_upon | (simp only []; go_at_K))
  go_ret
  refine ⟨rfl, Upd.trans ?_ hu3⟩
  have hle := U2.size
  have hsz := hB2.lt
  repeat (first | exact U2 | refine Upd.setCell ?_ (.inr ?_) _ | refine Upd.alloc ?_ _)
  all_goals exact hs1

set_option maxRecDepth 100000 in
set_option maxHeartbeats 4000000 in
theorem kinds_k11 (w : World) (hG : GoodG w) (cl : Int) (h1 : 1 ≤ cl) (h2 : cl ≤ 64) :
    Calls Tryd.prog 14 #[.int .i64 11, .int .i64 cl] w fun ev w' => ev = .returned (.bool true) ∧ Upd [] [] w w' := by
  have M := cmdMay (Cm.mk 11 cl 1 0 0 0 7 0 0)
  have hm : (Cm.mk 11 cl 1 0 0 0 7 0 0).may = true := by simp [Cm.may, wi, flds, h1, h2]
  rw [show (Cm.mk 11 cl 1 0 0 0 7 0 0).err = 0 by simp [Cm.err, hm]] at M
  simp only [Cm.val] at M
  clear hm
  go_enter Tryd.func14, Tryd.ntmps14
  repeat' ((fail_if_success (with_reducible refine stop_append rfl ?_)); (fail_if_success (with_reducible refine stop_copy rfl ?_)); first | go_values | go_skip | go_guarded | go_step | go_upon | (simp only []; go_at_K))
  refine (awake05 w hG).mono ?_
  rintro ev w1 ⟨rfl, hu1⟩
  repeat' ((fail_if_success (with_reducible refine stop_append rfl ?_)); (fail_if_success (with_reducible refine stop_copy rfl ?_)); first | go_values | go_skip | go_guarded | go_step | go_upon | (simp only []; go_at_K))
  have hB1 := Blk.new w1 68 #[.int .i64 11, .int .i64 cl, .int .i64 1, .int .i64 0, .int .i64 0, .int .i64 0, .int .i64 0, .int .i64 0, .int .i64 0]
  refine (uses_k11 _).mono ?_
  rintro ev w2 ⟨rfl, hu2⟩
  have hB2 := hB1.upd hu2 (by simp)
  have U2 : Upd [] [] w w2 := (hu1.alloc _).trans hu2
  have hlt := hB2.lt
  have b0 := hB2.cell 0
  have b1 := hB2.cell 1
  have b2 := hB2.cell 2
  have b3 := hB2.cell 3
  have b4 := hB2.cell 4
  have b5 := hB2.cell 5
  have b6 := hB2.cell 6
  have b7 := hB2.cell 7
  have b8 := hB2.cell 8
  simp at b0 b1 b2 b3 b4 b5 b6 b7 b8
  have f0 := hB2.frozen 0
  have f1 := hB2.frozen 1
  have f2 := hB2.frozen 2
  have f3 := hB2.frozen 3
  have f4 := hB2.frozen 4
  have f5 := hB2.frozen 5
  have f6 := hB2.frozen 6
  have f7 := hB2.frozen 7
  have f8 := hB2.frozen 8
  have hs1 := hu1.size
  clear hB1 hu1 hu2
  repeat' ((fail_if_success (with_reducible refine stop_append rfl ?_)); (fail_if_success (with_reducible refine stop_copy rfl ?_)); first | go_values | go_skip | go_guarded | go_step | go_upon | (simp only []; go_at_K))
  refine (M _).mono ?_
  rintro ev w3 ⟨rfl, hu3⟩
  repeat' ((fail_if_success (with_reducible refine stop_append rfl ?_)); (fail_if_success (with_reducible refine stop_copy rfl ?_)); first | go_values | go_skip | go_guarded | go_step | go_upon | (simp only []; go_at_K))
  go_ret
  refine ⟨rfl, Upd.trans ?_ hu3⟩
  have hle := U2.size
  have hsz := hB2.lt
  repeat (first | exact U2 | refine Upd.setCell ?_ (.inr ?_) _ | refine Upd.alloc ?_ _)
  all_goals exact hs1

set_option maxRecDepth 100000 in
set_option maxHeartbeats 4000000 in
theorem kinds_out0 (w : World) (hG : GoodG w) (k cl : Int) (h : k < 0) :
    Calls Tryd.prog 14 #[.int .i64 k, .int .i64 cl] w fun ev w' => ev = .returned (.bool true) ∧ Upd [] [] w w' := by
  have M := cmdMay (Cm.mk k cl 1 0 0 0 0 0 0)
  have hm : (Cm.mk k cl 1 0 0 0 0 0 0).may = false := by
    have : flds k 0 0 0 0 0 = false := by unfold flds; simp only [show ¬ k = 0 by omega, show ¬ k = 1 by omega, show ¬ k = 2 by omega, show ¬ k = 3 by omega, show ¬ k = 4 by omega, show ¬ k = 5 by omega, show ¬ k = 6 by omega, show ¬ k = 7 by omega, show ¬ k = 8 by omega, show ¬ k = 9 by omega, show ¬ k = 10 by omega, show ¬ k = 11 by omega, if_false]
    simp [Cm.may, this]
  rw [show (Cm.mk k cl 1 0 0 0 0 0 0).err = 1 by simp [Cm.err, hm]] at M
  simp only [Cm.val] at M
  clear hm
  go_enter Tryd.func14, Tryd.ntmps14
  repeat' ((fail_if_success (with_reducible refine stop_append rfl ?_)); (fail_if_success (with_reducible refine stop_copy rfl ?_)); first | go_values | go_skip | go_guarded | go_step | go_upon | (simp only []; go_at_K))
  refine (awake05 w hG).mono ?_
  rintro ev w1 ⟨rfl, hu1⟩
  repeat' ((fail_if_success (with_reducible refine stop_append rfl ?_)); (fail_if_success (with_reducible refine stop_copy rfl ?_)); first | go_values | go_skip | go_guarded | go_step | go_upon | (simp only []; go_at_K))
  refine (M _).mono ?_
  rintro ev w3 ⟨rfl, hu3⟩
  repeat' ((fail_if_success (with_reducible refine stop_append rfl ?_)); (fail_if_success (with_reducible refine stop_copy rfl ?_)); first | go_values | go_skip | go_guarded | go_step | go_upon | (simp only []; go_at_K))
  go_ret
  exact ⟨rfl, (hu1.alloc _).trans hu3⟩

set_option maxRecDepth 100000 in
set_option maxHeartbeats 4000000 in
theorem kinds_out1 (w : World) (hG : GoodG w) (k cl : Int) (h0 : 0 ≤ k) (h : 11 < k) :
    Calls Tryd.prog 14 #[.int .i64 k, .int .i64 cl] w fun ev w' => ev = .returned (.bool true) ∧ Upd [] [] w w' := by
  have M := cmdMay (Cm.mk k cl 1 0 0 0 0 0 0)
  have hm : (Cm.mk k cl 1 0 0 0 0 0 0).may = false := by
    have : flds k 0 0 0 0 0 = false := by unfold flds; simp only [show ¬ k = 0 by omega, show ¬ k = 1 by omega, show ¬ k = 2 by omega, show ¬ k = 3 by omega, show ¬ k = 4 by omega, show ¬ k = 5 by omega, show ¬ k = 6 by omega, show ¬ k = 7 by omega, show ¬ k = 8 by omega, show ¬ k = 9 by omega, show ¬ k = 10 by omega, show ¬ k = 11 by omega, if_false]
    simp [Cm.may, this]
  rw [show (Cm.mk k cl 1 0 0 0 0 0 0).err = 1 by simp [Cm.err, hm]] at M
  simp only [Cm.val] at M
  clear hm
  go_enter Tryd.func14, Tryd.ntmps14
  repeat' ((fail_if_success (with_reducible refine stop_append rfl ?_)); (fail_if_success (with_reducible refine stop_copy rfl ?_)); first | go_values | go_skip | go_guarded | go_step | go_upon | (simp only []; go_at_K))
  refine (awake05 w hG).mono ?_
  rintro ev w1 ⟨rfl, hu1⟩
  repeat' ((fail_if_success (with_reducible refine stop_append rfl ?_)); (fail_if_success (with_reducible refine stop_copy rfl ?_)); first | go_values | go_skip | go_guarded | go_step | go_upon | (simp only []; go_at_K))
  refine (M _).mono ?_
  rintro ev w3 ⟨rfl, hu3⟩
  repeat' ((fail_if_success (with_reducible refine stop_append rfl ?_)); (fail_if_success (with_reducible refine stop_copy rfl ?_)); first | go_values | go_skip | go_guarded | go_step | go_upon | (simp only []; go_at_K))
  go_ret
  exact ⟨rfl, (hu1.alloc _).trans hu3⟩

set_option maxRecDepth 100000 in
set_option maxHeartbeats 4000000 in
theorem kinds_out2 (w : World) (hG : GoodG w) (k cl : Int) (h0 : 0 ≤ k) (h1 : k ≤ 11) (h : cl < 1) :
    Calls Tryd.prog 14 #[.int .i64 k, .int .i64 cl] w fun ev w' => ev = .returned (.bool true) ∧ Upd [] [] w w' := by
  have M := cmdMay (Cm.mk k cl 1 0 0 0 0 0 0)
  have hm : (Cm.mk k cl 1 0 0 0 0 0 0).may = false := by
    have : wi cl 1 64 = false := by simp [wi]; omega
    simp [Cm.may, this]
  rw [show (Cm.mk k cl 1 0 0 0 0 0 0).err = 1 by simp [Cm.err, hm]] at M
  simp only [Cm.val] at M
  clear hm
  go_enter Tryd.func14, Tryd.ntmps14
  repeat' ((fail_if_success (with_reducible refine stop_append rfl ?_)); (fail_if_success (with_reducible refine stop_copy rfl ?_)); first | go_values | go_skip | go_guarded | go_step | go_upon | (simp only []; go_at_K))
  refine (awake05 w hG).mono ?_
  rintro ev w1 ⟨rfl, hu1⟩
  repeat' ((fail_if_success (with_reducible refine stop_append rfl ?_)); (fail_if_success (with_reducible refine stop_copy rfl ?_)); first | go_values | go_skip | go_guarded | go_step | go_upon | (simp only []; go_at_K))
  refine (M _).mono ?_
  rintro ev w3 ⟨rfl, hu3⟩
  repeat' ((fail_if_success (with_reducible refine stop_append rfl ?_)); (fail_if_success (with_reducible refine stop_copy rfl ?_)); first | go_values | go_skip | go_guarded | go_step | go_upon | (simp only []; go_at_K))
  go_ret
  exact ⟨rfl, (hu1.alloc _).trans hu3⟩

set_option maxRecDepth 100000 in
set_option maxHeartbeats 4000000 in
theorem kinds_out3 (w : World) (hG : GoodG w) (k cl : Int) (h0 : 0 ≤ k) (h1 : k ≤ 11) (h2 : 1 ≤ cl) (h : 64 < cl) :
    Calls Tryd.prog 14 #[.int .i64 k, .int .i64 cl] w fun ev w' => ev = .returned (.bool true) ∧ Upd [] [] w w' := by
  have M := cmdMay (Cm.mk k cl 1 0 0 0 0 0 0)
  have hm : (Cm.mk k cl 1 0 0 0 0 0 0).may = false := by
    have : wi cl 1 64 = false := by simp [wi]; omega
    simp [Cm.may, this]
  rw [show (Cm.mk k cl 1 0 0 0 0 0 0).err = 1 by simp [Cm.err, hm]] at M
  simp only [Cm.val] at M
  clear hm
  go_enter Tryd.func14, Tryd.ntmps14
  repeat' ((fail_if_success (with_reducible refine stop_append rfl ?_)); (fail_if_success (with_reducible refine stop_copy rfl ?_)); first | go_values | go_skip | go_guarded | go_step | go_upon | (simp only []; go_at_K))
  refine (awake05 w hG).mono ?_
  rintro ev w1 ⟨rfl, hu1⟩
  repeat' ((fail_if_success (with_reducible refine stop_append rfl ?_)); (fail_if_success (with_reducible refine stop_copy rfl ?_)); first | go_values | go_skip | go_guarded | go_step | go_upon | (simp only []; go_at_K))
  refine (M _).mono ?_
  rintro ev w3 ⟨rfl, hu3⟩
  repeat' ((fail_if_success (with_reducible refine stop_append rfl ?_)); (fail_if_success (with_reducible refine stop_copy rfl ?_)); first | go_values | go_skip | go_guarded | go_step | go_upon | (simp only []; go_at_K))
  go_ret
  exact ⟨rfl, (hu1.alloc _).trans hu3⟩

theorem cmdKinds_any (w : World) (hG : GoodG w) (k cl : Int) :
    Calls Tryd.prog 14 #[.int .i64 k, .int .i64 cl] w fun ev w' => ev = .returned (.bool true) ∧ Upd [] [] w w' := by
  by_cases h0 : k < 0
  · exact kinds_out0 w hG k cl h0
  by_cases h1 : 11 < k
  · exact kinds_out1 w hG k cl (by omega) h1
  by_cases h2 : cl < 1
  · exact kinds_out2 w hG k cl (by omega) (by omega) h2
  by_cases h3 : 64 < cl
  · exact kinds_out3 w hG k cl (by omega) (by omega) (by omega) h3
  have : k = 0 ∨ k = 1 ∨ k = 2 ∨ k = 3 ∨ k = 4 ∨ k = 5 ∨ k = 6 ∨ k = 7 ∨ k = 8 ∨ k = 9 ∨ k = 10 ∨ k = 11 := by omega
  rcases this with rfl | rfl | rfl | rfl | rfl | rfl | rfl | rfl | rfl | rfl | rfl | rfl
  · exact kinds_k0 w hG cl (by omega) (by omega)
  · exact kinds_k1 w hG cl (by omega) (by omega)
  · exact kinds_k2 w hG cl (by omega) (by omega)
  · exact kinds_k3 w hG cl (by omega) (by omega)
  · exact kinds_k4 w hG cl (by omega) (by omega)
  · exact kinds_k5 w hG cl (by omega) (by omega)
  · exact kinds_k6 w hG cl (by omega) (by omega)
  · exact kinds_k7 w hG cl (by omega) (by omega)
  · exact kinds_k8 w hG cl (by omega) (by omega)
  · exact kinds_k9 w hG cl (by omega) (by omega)
  · exact kinds_k10 w hG cl (by omega) (by omega)
  · exact kinds_k11 w hG cl (by omega) (by omega)
end Go.Proofs.YtchlceolccfdhaaDoor
