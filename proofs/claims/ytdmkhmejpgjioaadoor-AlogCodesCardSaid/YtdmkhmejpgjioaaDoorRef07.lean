/- Records: agioref07.Encode. -/
import Derived.Test.YtdmkhmejpgjioaaDoorAlog7
set_option linter.all false
namespace Go.Proofs.YtdmkhmejpgjioaaDoor
open Go.RowKit Agio

set_option maxRecDepth 100000 in
set_option maxHeartbeats 4000000 in
theorem ref07Encode_no (x : Rv) (w : World) (hr : RdB w x.A x.n x.b) (hm : ¬ x.rc.May) :
    Calls Tryd.prog 16 #[x.val] w fun e w' => e = .returned (.tuple #[.slice none 0 0, .int .i64 1]) ∧ Upd [] [] w w' := by
  have C := ref07May x (w.alloc (.cells #[.int .i64 x.k, .int .i64 x.s, .int .i64 x.r, .int .i64 x.t, .slice x.A x.n x.c] 48)) (hr.alloc _)
  rw [Rv.val_eq] at C ⊢
  go_enter Tryd.func16, Tryd.ntmps16
  repeat' ((fail_if_success (with_reducible refine stop_append rfl ?_)); (fail_if_success (with_reducible refine stop_copy rfl ?_)); first | go_values | go_skip | go_guarded | go_step | go_upon | (simp only []; go_at_K))
  ((with_reducible refine C.mono ?_); rintro e w1 ⟨⟨v, rfl, hv⟩, hu1⟩)
  obtain rfl : v = false := by
    cases v with
    | false => rfl
    | true => exact absurd (hv.1 rfl) hm
  clear C hv
  repeat' ((fail_if_success (with_reducible refine stop_append rfl ?_)); (fail_if_success (with_reducible refine stop_copy rfl ?_)); first | go_values | go_skip | go_guarded | go_step | go_upon | (simp only []; go_at_K))
  go_ret2
  exact ⟨rfl, ((Upd.refl [] w).alloc _).trans hu1⟩

set_option maxRecDepth 100000 in
set_option maxHeartbeats 4000000 in
theorem ref07Encode (x : Rv) (w : World) (hr : RdB w x.A x.n x.b) (hm : x.rc.May) :
    Calls Tryd.prog 16 #[x.val] w fun e w' => ∃ A' k' c', e = .returned (.tuple #[.slice A' k' c', .int .i64 0]) ∧ OwnB 5 w' A' k' c' x.rc.bytes ∧ Upd [] (ablk A') w w' := by
  have C := ref07May x (w.alloc (.cells #[.int .i64 x.k, .int .i64 x.s, .int .i64 x.r, .int .i64 x.t, .slice x.A x.n x.c] 48)) (hr.alloc _)
  rw [Rv.val_eq] at C ⊢
  obtain ⟨k, s, r, t, A, n, c, b⟩ := x
  have h1 := hm.kind; have h2 := hm.slot; have h3 := hm.round; have h4 := hm.site; have h5 := hm.val
  simp only [Rv.rc] at h1 h2 h3 h4 h5 C hr
  obtain ⟨K, rfl⟩ := Int.eq_ofNat_of_zero_le (show 0 ≤ k by omega)
  obtain ⟨S, rfl⟩ := Int.eq_ofNat_of_zero_le (show 0 ≤ s by omega)
  obtain ⟨R, rfl⟩ := Int.eq_ofNat_of_zero_le (show 0 ≤ r by omega)
  obtain ⟨T, rfl⟩ := Int.eq_ofNat_of_zero_le (show 0 ≤ t by omega)
  have hK : K ≤ 2 := by omega
  have hS : S ≤ 4095 := by omega
  have hR : R ≤ 1099511627776 := by omega
  have hT : T ≤ 6 := by omega
  have lK := leb_len (n := K) (by unfold U64; omega)
  have lS := leb_len (n := S) (by unfold U64; omega)
  have lR := leb_len (n := R) (by unfold U64; omega)
  have lT := leb_len (n := T) (by unfold U64; omega)
  have lB := leb_len (n := b.length) (by unfold U64; omega)
  have HB : Hid (leb K ++ leb S ++ leb R ++ leb T ++ (leb b.length ++ b) = (⟨(K : Int), (S : Int), (R : Int), (T : Int), b⟩ : Rc).bytes) := Lib.hid (by simp [Rc.bytes, Rc.ns, bodyB])
  have hX := Blk.new w 48 #[.int .i64 K, .int .i64 S, .int .i64 R, .int .i64 T, .slice A n c]
  have hrb := hr.alloc (.cells #[.int .i64 K, .int .i64 S, .int .i64 R, .int .i64 T, .slice A n c] 48)
  have U0 := (Upd.refl [] w).alloc (.cells #[.int .i64 K, .int .i64 S, .int .i64 R, .int .i64 T, .slice A n c] 48)
  go_enter Tryd.func16, Tryd.ntmps16
  repeat' ((fail_if_success (with_reducible refine stop_append rfl ?_)); (fail_if_success (with_reducible refine stop_copy rfl ?_)); first | go_values | go_skip | go_guarded | go_step | go_upon | (simp only []; go_at_K))
  ((with_reducible refine C.mono ?_); rintro e w0 ⟨⟨v, rfl, hv⟩, V0⟩)
  obtain rfl : v = true := hv.2 hm
  clear C hv hm h1 h2 h3 h4
  obtain ⟨gX, hgX⟩ : ∃ g, w.heap.size = g := ⟨_, rfl⟩
  rw [hgX] at hX ⊢
  generalize w.alloc (.cells #[.int .i64 K, .int .i64 S, .int .i64 R, .int .i64 T, .slice A n c] 48) = wb at *
  clear hr
  obtain ⟨⟨q0, q1, q2, q3, q4⟩, -⟩ := (hX.upd V0 (by simp)).c5
  repeat' ((fail_if_success (with_reducible refine stop_append rfl ?_)); (fail_if_success (with_reducible refine stop_copy rfl ?_)); first | go_values | go_skip | go_guarded | go_step | go_upon | (simp only []; go_at_K))
  ((with_reducible refine (refUint_any _ _ (by omega) (by unfold U64; omega)).mono ?_); rintro e w1 ⟨A1, k1, c1, rfl, ho1, hu1⟩)
  simp only [Int.toNat_natCast] at ho1
  have V1 := V0.trans hu1
  clear V0 hu1 q0 q1 q2 q3 q4
  obtain ⟨⟨q0, q1, q2, q3, q4⟩, -⟩ := (hX.upd V1 (by simp)).c5
  repeat' ((fail_if_success (with_reducible refine stop_append rfl ?_)); (fail_if_success (with_reducible refine stop_copy rfl ?_)); first | go_values | go_skip | go_guarded | go_step | go_upon | (simp only []; go_at_K))
  ((with_reducible refine (refUint_any _ _ (by omega) (by unfold U64; omega)).mono ?_); rintro e v2 ⟨B2, j2, d2, rfl, hp2, hv2⟩)
  simp only [Int.toNat_natCast] at hp2
  have ho1' := ho1.upd hv2 (by simp)
  have V1' : Upd [] (ablk A1) wb v2 := V1.trans (hv2.up _)
  clear ho1 V1 hv2 q0 q1 q2 q3 q4
  repeat' ((fail_if_success (with_reducible refine stop_append rfl ?_)); (fail_if_success (with_reducible refine stop_copy rfl ?_)); first | go_values | go_skip | go_guarded | go_step | go_upon | (simp only []; go_at_K))
  refine wpList_appB rfl _ _ 24 rfl 5 Tryd.underlying24 infoU8 ho1' rfl hp2.rd rfl (by (try simp only [List.length_append]); omega) ?_
  intro A2 k2 c2 w2 ho2 hu2
  have V2 := V1'.trans hu2
  clear ho1' V1' hu2 hp2
  obtain ⟨⟨q0, q1, q2, q3, q4⟩, -⟩ := (hX.upd V2 (by simp)).c5
  repeat' ((fail_if_success (with_reducible refine stop_append rfl ?_)); (fail_if_success (with_reducible refine stop_copy rfl ?_)); first | go_values | go_skip | go_guarded | go_step | go_upon | (simp only []; go_at_K))
  ((with_reducible refine (refUint_any _ _ (by omega) (by unfold U64; omega)).mono ?_); rintro e v3 ⟨B3, j3, d3, rfl, hp3, hv3⟩)
  simp only [Int.toNat_natCast] at hp3
  have ho2' := ho2.upd hv3 (by simp)
  have V2' : Upd [] (ablk A2) wb v3 := V2.trans (hv3.up _)
  clear ho2 V2 hv3 q0 q1 q2 q3 q4
  repeat' ((fail_if_success (with_reducible refine stop_append rfl ?_)); (fail_if_success (with_reducible refine stop_copy rfl ?_)); first | go_values | go_skip | go_guarded | go_step | go_upon | (simp only []; go_at_K))
  refine wpList_appB rfl _ _ 24 rfl 5 Tryd.underlying24 infoU8 ho2' rfl hp3.rd rfl (by (try simp only [List.length_append]); omega) ?_
  intro A3 k3 c3 w3 ho3 hu3
  have V3 := V2'.trans hu3
  clear ho2' V2' hu3 hp3
  obtain ⟨⟨q0, q1, q2, q3, q4⟩, -⟩ := (hX.upd V3 (by simp)).c5
  repeat' ((fail_if_success (with_reducible refine stop_append rfl ?_)); (fail_if_success (with_reducible refine stop_copy rfl ?_)); first | go_values | go_skip | go_guarded | go_step | go_upon | (simp only []; go_at_K))
  ((with_reducible refine (refUint_any _ _ (by omega) (by unfold U64; omega)).mono ?_); rintro e v4 ⟨B4, j4, d4, rfl, hp4, hv4⟩)
  simp only [Int.toNat_natCast] at hp4
  have ho3' := ho3.upd hv4 (by simp)
  have V3' : Upd [] (ablk A3) wb v4 := V3.trans (hv4.up _)
  clear ho3 V3 hv4 q0 q1 q2 q3 q4
  repeat' ((fail_if_success (with_reducible refine stop_append rfl ?_)); (fail_if_success (with_reducible refine stop_copy rfl ?_)); first | go_values | go_skip | go_guarded | go_step | go_upon | (simp only []; go_at_K))
  refine wpList_appB rfl _ _ 24 rfl 5 Tryd.underlying24 infoU8 ho3' rfl hp4.rd rfl (by (try simp only [List.length_append]); omega) ?_
  intro A4 k4 c4 w4 ho4 hu4
  have V4 := V3'.trans hu4
  clear ho3' V3' hu4 hp4
  obtain ⟨⟨q0, q1, q2, q3, q4⟩, -⟩ := (hX.upd V4 (by simp)).c5
  repeat' ((fail_if_success (with_reducible refine stop_append rfl ?_)); (fail_if_success (with_reducible refine stop_copy rfl ?_)); first | go_values | go_skip | go_guarded | go_step | go_upon | (simp only []; go_at_K))
  ((with_reducible refine (refBytes _ A n c b (hrb.upd V4 (by simp)) (by omega)).mono ?_); rintro e v5 ⟨B5, j5, d5, rfl, hp5, hv5⟩)
  have ho4' := ho4.upd hv5 (by simp)
  have V4' : Upd [] (ablk A4) wb v5 := V4.trans (hv5.up _)
  clear ho4 V4 hv5 q0 q1 q2 q3 q4
  repeat' ((fail_if_success (with_reducible refine stop_append rfl ?_)); (fail_if_success (with_reducible refine stop_copy rfl ?_)); first | go_values | go_skip | go_guarded | go_step | go_upon | (simp only []; go_at_K))
  refine wpList_appB rfl _ _ 24 rfl 5 Tryd.underlying24 infoU8 ho4' rfl hp5.rd rfl (by (try simp only [List.length_append]); omega) ?_
  intro A5 k5 c5 w5 ho5 hu5
  have V5 := V4'.trans hu5
  clear ho4' V4' hu5 hp5
  obtain ⟨⟨q0, q1, q2, q3, q4⟩, -⟩ := (hX.upd V5 (by simp)).c5
  repeat' ((fail_if_success (with_reducible refine stop_append rfl ?_)); (fail_if_success (with_reducible refine stop_copy rfl ?_)); first | go_values | go_skip | go_guarded | go_step | go_upon | (simp only []; go_at_K))
  go_ret2
  rw [HB.out] at ho5
  exact ⟨A5, k5, c5, rfl, ho5, (U0.trans (V5.mono (by simp) (fun k hk => .inl hk)))⟩
end Go.Proofs.YtdmkhmejpgjioaaDoor
