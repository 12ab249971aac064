/- Records: agiolaw07's awake. -/
import Derived.Test.YtdmkhmejpgjioaaDoorAlog8
import Derived.Test.YtdmkhmejpgjioaaDoorAlog7
set_option linter.all false
namespace Go.Proofs.YtdmkhmejpgjioaaDoor
open Go.RowKit Agio

/-- The record of awake. -/
def rv0 : Rv := ⟨1, 3, 1, 2, none, 0, 0, []⟩
theorem rv0_may : rv0.rc.May := ⟨.inl ⟨rfl, rfl⟩, by decide, by decide, by decide, by decide⟩
theorem rv0_bytes : rv0.rc.bytes = [1, 3, 1, 2, 0] := by
  simp [rv0, Rv.rc, Rc.bytes, Rc.ns, bodyB, leb]
theorem rv0_put : (put rv0.rc.bytes).length = 13 := by rw [put_len, rv0_bytes]; rfl
theorem rv0_lay : (layB (rcs [rv0, rv0])).length = 26 := by simp [rcs, layB, rv0_bytes]
theorem rv0_read : (readB ((layB (rcs [rv0, rv0])).take 20)).1 = [rv0.rc] ∧ (readB ((layB (rcs [rv0, rv0])).take 20)).2 = 13 := by
  obtain ⟨m, h1, h2, h3, h4, h5⟩ := readB_torn (l := rcs [rv0, rv0]) (by simp only [rcs, List.map_cons, List.map_nil]; intro r hr; simp at hr; rw [hr]; exact rv0_may) 20 (by rw [rv0_lay]; decide)
  rw [h2, h3]
  have hp := rv0_put
  have hl := rv0_lay
  have hm : m = 0 ∨ m = 1 ∨ m = 2 := by simp [rcs] at h1; omega
  rcases hm with rfl | rfl | rfl
  · have := h5 (by simp [rcs])
    simp [rcs, layB] at this hp
    omega
  · simp [rcs, layB, rv0_bytes]
  · simp [rcs, layB, rv0_bytes] at h4

set_option maxRecDepth 100000 in
set_option maxHeartbeats 4000000 in
theorem awake07 (w : World) : Calls Tryd.prog 14 #[] w fun e w' => e = .returned (.bool true) ∧ Upd [] [] w w' := by
  go_enter Tryd.func14, Tryd.ntmps14
  repeat' ((fail_if_success (with_reducible refine stop_append rfl ?_)); (fail_if_success (with_reducible refine stop_copy rfl ?_)); first | go_values | go_skip | go_guarded | go_step | go_upon | (simp only []; go_at_K))
  have C := alogEncode rv0 (w.alloc (.cells #[.int .i64 1, .int .i64 3, .int .i64 1, .int .i64 2, .slice none 0 0] 44)) (RdB.nil _ _) rv0_may
  rw [Rv.val_eq, rv0_bytes] at C
  simp only [rv0] at C
  ((with_reducible refine C.mono ?_); rintro e w1 ⟨A1, k1, c1, rfl, ho1, hu1⟩)
  have hX := (Blk.new w 44 #[.int .i64 1, .int .i64 3, .int .i64 1, .int .i64 2, .slice none 0 0]).upd hu1 (by simp)
  have U1 := (((Upd.refl [] w).alloc (.cells #[.int .i64 1, .int .i64 3, .int .i64 1, .int .i64 2, .slice none 0 0] 44)).trans hu1).gives (b' := []) (by simp)
  obtain ⟨⟨b0, b1, b2, b3, b4⟩, -⟩ := hX.c5
  clear C hu1
  repeat' ((fail_if_success (with_reducible refine stop_append rfl ?_)); (fail_if_success (with_reducible refine stop_copy rfl ?_)); first | go_values | go_skip | go_guarded | go_step | go_upon | (simp only []; go_at_K))
  have hV : Rvs (w1.alloc (.cells #[.int .i64 1, .int .i64 3, .int .i64 1, .int .i64 2, .slice none 0 0, .int .i64 1, .int .i64 3, .int .i64 1, .int .i64 2, .slice none 0 0] 44)) (some ⟨w1.heap.size, 0, none⟩) 2 [rv0, rv0] :=
    ⟨⟨rfl, Rd.blk (cs := [.int .i64 1, .int .i64 3, .int .i64 1, .int .i64 2, .slice none 0 0, .int .i64 1, .int .i64 3, .int .i64 1, .int .i64 2, .slice none 0 0]) (Blk.new _ _ _) rfl⟩, fun x hx => by simp at hx; subst hx; exact RdB.nil _ _⟩
  have C := alogLay _ _ 2 2 _ hV (fun x hx => by simp at hx; subst hx; exact rv0_may) (by decide) (by rw [rv0_lay]; decide)
  ((with_reducible refine C.mono ?_); rintro e w2 ⟨A2, k2, c2, rfl, ho2, hu2⟩)
  have hu2' := (((Upd.refl [] w1).alloc (.cells #[.int .i64 1, .int .i64 3, .int .i64 1, .int .i64 2, .slice none 0 0, .int .i64 1, .int .i64 3, .int .i64 1, .int .i64 2, .slice none 0 0] 44)).trans hu2)
  have hX2 := hX.upd hu2' (by simp)
  have ho12 := ho1.upd hu2' (by simp)
  have U2 := (U1.trans hu2').gives (b' := []) (by simp)
  obtain rfl : k2 = 26 := by rw [ho2.len, rv0_lay]
  have hc2 := ho2.own.cap
  have hc26 : (26 : Int) ≤ (c2 : Int) := by omega
  have hc20 : (20 : Int) ≤ (c2 : Int) := by omega
  have hr2 := RdB.pre ho2.rd 20 (by decide)
  clear C hV hX ho1 U1 hu2 hu2' b0 b1 b2 b3 b4
  repeat' ((fail_if_success (with_reducible refine stop_append rfl ?_)); (fail_if_success (with_reducible refine stop_copy rfl ?_)); first | go_values | go_skip | go_guarded | go_step | go_upon | (simp only []; go_at_K))
  ((with_reducible refine (alogRead_all w2 A2 20 c2 _ hr2 (by omega) hc2.2 (by rw [List.length_take, rv0_lay]; decide)).mono ?_); rintro e w3 ⟨A3, k3, c3, xs, rfl, hxs, hR, hu3⟩)
  obtain ⟨hq1, hq2⟩ := rv0_read
  rw [hq1] at hxs
  rw [hq2]
  obtain ⟨x, rfl⟩ : ∃ x, xs = [x] := by
    have := congrArg List.length hxs
    simp [rcs] at this
    exact List.length_eq_one_iff.1 this
  have hxr : x.rc = rv0.rc := by simpa [rcs] using hxs
  obtain rfl : k3 = 1 := hR.len
  have hX3 := hX2.upd hu3 (by simp)
  have ho13 := ho12.upd hu3 (by simp)
  have U3 := (U2.trans hu3).gives (b' := []) (by simp)
  have hV3 := hR.rvs
  obtain ⟨ad, hA, q0, q1, q2, q3, q4⟩ := hV3.at_ (i := 0) (by simp)
  subst hA
  have hx3 := hV3.each x (by simp)
  simp only [List.getElem_cons_zero, Nat.zero_mul] at q0 q1 q2 q3 q4
  simp only [Addr.add, if_true] at q0 q1 q2 q3 q4
  obtain ⟨⟨b0, b1, b2, b3, b4⟩, -⟩ := hX3.c5
  have s1 : (convert 24 9 (.slice A1 k1 c1)).run Tryd.prog w3.drew = .ok (.string ⟨#[1, 3, 1, 2, 0]⟩) w3.drew := strOf (Rd.drew ho13.rd) c1
  clear hX2 ho12 U2 hu3 hR hxs hq1 hq2 ho2 hr2
  repeat' ((fail_if_success (with_reducible refine stop_append rfl ?_)); (fail_if_success (with_reducible refine stop_copy rfl ?_)); first | go_values | go_skip | go_guarded | go_step | go_upon | (simp only []; go_at_K))
  have C := law07One x rv0 w3.drew (Rd.drew hx3) (RdB.nil _ _) hxr
  simp only [rv0] at C
  clear hxr hV3 hX3 hx3 ho13
  go_still_tail 30, (by kernel_rfl)
  change wpList _ _ _ _ _ w3.drew
  repeat' ((fail_if_success (with_reducible refine stop_append rfl ?_)); (fail_if_success (with_reducible refine stop_copy rfl ?_)); first | go_values | go_skip | go_guarded | go_step | go_upon | (simp only []; go_at_K))
  ((with_reducible refine C.mono ?_); rintro e w4 ⟨rfl, hu4⟩)
  repeat' ((fail_if_success (with_reducible refine stop_append rfl ?_)); (fail_if_success (with_reducible refine stop_copy rfl ?_)); first | go_values | go_skip | go_guarded | go_step | go_upon | (simp only []; go_at_K))
  go_ret
  exact ⟨rfl, U3.trans (((Upd.refl [] w3).drew).trans hu4)⟩
end Go.Proofs.YtdmkhmejpgjioaaDoor
