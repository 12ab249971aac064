/- agiolaw02.awake. -/
import Derived.Test.YtchlceolccfdhaaDoorErrs6
import Derived.Test.YtchlceolccfdhaaDoorReader3
import Derived.Lib.SlBytesConst
namespace Go.Proofs.YtchlceolccfdhaaDoor
open Go.RowKit Agio

theorem leb300 : leb 300 = [172, 2] := by rw [leb_ge (by decide), leb_lt (by decide)]; rfl
theorem zig1 : zig (-1) = 1 := rfl
theorem uv_awake : uv [5, 128, 0] = (5, 1, 0) := by rw [uv, uvA_last (by decide) (by decide) (by decide)]; rfl
theorem uv_awake2 : uv [128, 0] = (0, 0, 2) := by rw [uv, uvA_more (by decide) (by decide), uvA_zero (by decide) (by decide)]

theorem told_awake : ([] : List UInt8) ++ leb (Int.toNat 300) ++ leb (zig (-1)) ++ leb ([97, 98] : List UInt8).length ++ [97, 98] = [172, 2, 1, 2, 97, 98] := by
  rw [show (300 : Int).toNat = 300 from rfl, leb300, zig1, leb_lt (n := 1) (by decide), show ([97, 98] : List UInt8).length = 2 from rfl, leb_lt (n := 2) (by decide)]; rfl
set_option maxRecDepth 100000 in
set_option maxHeartbeats 4000000 in
theorem awake02 (w : World) (hG : GoodG w) : Calls Tryd.prog 17 #[] w fun ev w' => ev = .returned (.bool true) ∧ Upd [] [] w w' := by
  have kc := fun (w : World) (C : Array Value) (n c : Nat) => Lib.run_convert_bytes_const (P := Tryd.prog) w 24 5 C n c Tryd.underlying24 Tryd.underlying5
  go_enter Tryd.func17, Tryd.ntmps17
  repeat' ((fail_if_success (refine stop_append rfl ?_)); (fail_if_success (refine stop_copy rfl ?_)); first | go_values | go_skip | go_guarded | go_step | go_upon | (simp only []; go_at_K))
  refine (writerUint 300 _ w.heap.size none 0 0 [] (by decide) (U64.small (by decide)) ⟨Blk.new _ _ _, (OwnB.nil _ _).alloc _⟩ (by decide)).mono ?_
  rintro ev w1 ⟨rfl, A1, k1, c1, hw1, hu1⟩
  repeat' ((fail_if_success (refine stop_append rfl ?_)); (fail_if_success (refine stop_copy rfl ?_)); first | go_values | go_skip | go_guarded | go_step | go_upon | (simp only []; go_at_K))
  refine (writerInt (-1) _ _ A1 k1 c1 _ (by unfold I64; omega) hw1 (by rw [show (300 : Int).toNat = 300 from rfl, leb300]; decide)).mono ?_
  rintro ev w2 ⟨rfl, A2, k2, c2, hw2, hu2⟩
  repeat' ((fail_if_success (refine stop_append rfl ?_)); (fail_if_success (refine stop_copy rfl ?_)); first | go_values | go_skip | go_guarded | go_step | go_upon | (simp only []; go_at_K))
  have hr3 : RdB (w2.alloc (.cells #[.int .u8 97, .int .u8 98] 5 (2, 3))) (some ⟨w2.heap.size, 0, none⟩) 2 [97, 98] := Rd.new _ _ rfl
  have hw2' : Wr (w2.alloc (.cells #[.int .u8 97, .int .u8 98] 5 (2, 3))) w.heap.size A2 k2 c2 _ := hw2.upd ((Upd.refl [] _).alloc _) (by simp)
  have hlt2 := hw2.lt
  refine (writerBytes _ _ A2 k2 c2 _ (some ⟨w2.heap.size, 0, none⟩) 2 2 [97, 98] hr3 (fun _ j hj => ?_) hw2' ?_).mono ?_
  · simp [ablk] at hj; subst hj; intro hm; have := hlt2 _ hm; omega
  · rw [show (300 : Int).toNat = 300 from rfl, leb300, zig1, leb_lt (by decide)]; decide
  rintro ev w3 ⟨rfl, A3, k3, c3, hw3, hu3⟩
  have U3 : Upd [] [] w w3 := ((((((Upd.refl [] w).alloc _).gives (b' := w.heap.size :: ablk none) (by simp [ablk])).trans hu1).trans hu2).trans (((Upd.refl _ _).alloc _).trans hu3)).gives (by simp)
  rw [told_awake] at hw3
  clear hu1 hu2 hu3 hw1 hw2 hw2' hr3 hlt2 kc
  repeat' ((fail_if_success (refine stop_append rfl ?_)); (fail_if_success (refine stop_copy rfl ?_)); first | go_values | go_skip | go_guarded | go_step | go_upon | (simp only []; go_at_K))
  have hr4 : RdB (w3.alloc (.cells #[.int .u8 5, .int .u8 128, .int .u8 0] 5)) (some ⟨w3.heap.size, 0, none⟩) 3 [5, 128, 0] := Rd.new _ _ rfl
  refine (wireFrom _ _ 3 3 _ hr4 (by decide)).mono ?_
  rintro ev w4 ⟨g, A4, k4, c4, rfl, hr, hu4⟩
  have hu4' : Upd [] (g :: ablk A4) w3 w4 := ((Upd.refl [] w3).alloc _).trans hu4
  have hw4 := hw3.upd hu4' (by simp)
  have hg : w3.heap.size ≤ g := by simpa using hu4'.fresh g (by simp)
  have hlt3 := hw3.lt
  have U4 := U3.trans hu4'
  have C5 := readerUint w4 g A4 k4 c4 _ 0 hr (by decide)
  rw [show ([5, 128, 0] : List UInt8).drop 0 = [5, 128, 0] from rfl, uv_awake, flt_zero] at C5
  clear U3 hr4 hu4 hu4' hw3
  repeat' ((fail_if_success (refine stop_append rfl ?_)); (fail_if_success (refine stop_copy rfl ?_)); first | go_values | go_skip | go_guarded | go_step | go_upon | (simp only []; go_at_K))
  refine C5.mono ?_
  rintro ev w5 ⟨rfl, hr5, hu5⟩
  have hw5 := hw4.upd hu5 (by intro j hj; simp; rintro rfl; have := hlt3 _ hj; omega)
  have U5 := (U4.gives (b' := [g]) (by intro j hj; exact U4.fresh j (by simp at hj; simp [hj]))).trans hu5
  have C6 := readerUint w5 g A4 k4 c4 _ _ hr5 (by decide)
  rw [show ([5, 128, 0] : List UInt8).drop (0 + (5, 1, 0).2.1) = [128, 0] from rfl, uv_awake2, flt_pos (by decide)] at C6
  clear C5 hw4 U4 hr hu5
  repeat' ((fail_if_success (refine stop_append rfl ?_)); (fail_if_success (refine stop_copy rfl ?_)); first | go_values | go_skip | go_guarded | go_step | go_upon | (simp only []; go_at_K))
  refine C6.mono ?_
  rintro ev w6 ⟨rfl, hr6, hu6⟩
  have hw6 := hw5.upd hu6 (by intro j hj; simp; rintro rfl; have := hlt3 _ hj; omega)
  have U6 := (U5.trans hu6).gives (b' := []) (by simp)
  have hG6 := hG.upd U6 (by simp)
  clear C6 hw5 U5 hr5 hr6 hu6
  repeat' ((fail_if_success (refine stop_append rfl ?_)); (fail_if_success (refine stop_copy rfl ?_)); first | go_values | go_skip | go_guarded | go_step | go_upon | (simp only []; go_at_K))
  refine (writerTold w6 w.heap.size A3 k3 c3 _ hw6 (by decide)).mono ?_
  rintro ev w7 ⟨A7, k7, c7, rfl, ho7, hu7⟩
  have hst := strOf ho7.rd c7
  have U7 := (U6.trans hu7).gives (b' := []) (by simp)
  have hG7 := hG.upd U7 (by simp)
  clear hu7 U6 hw6 hG6
  repeat' ((fail_if_success (refine stop_append rfl ?_)); (fail_if_success (refine stop_copy rfl ?_)); first | go_values | go_skip | go_guarded | go_step | go_upon | (simp only []; go_at_K))
  refine (codeEr (.wf 2 1) w7 hG7).mono ?_
  rintro ev w8 ⟨rfl, hu8⟩
  have hG8 := hG7.upd hu8 (by simp)
  simp only [Er.code]
  repeat' ((fail_if_success (refine stop_append rfl ?_)); (fail_if_success (refine stop_copy rfl ?_)); first | go_values | go_skip | go_guarded | go_step | go_upon | (simp only []; go_at_K))
  refine (atEr (.wf 2 1) w8 hG8).mono ?_
  rintro ev w9 ⟨rfl, hu9⟩
  simp only [Er.at_, Option.getD]
  repeat' ((fail_if_success (refine stop_append rfl ?_)); (fail_if_success (refine stop_copy rfl ?_)); first | go_values | go_skip | go_guarded | go_step | go_upon | (simp only []; go_at_K))
  go_ret
  exact ⟨rfl, (U7.trans hu8).trans hu9⟩
end Go.Proofs.YtchlceolccfdhaaDoor
