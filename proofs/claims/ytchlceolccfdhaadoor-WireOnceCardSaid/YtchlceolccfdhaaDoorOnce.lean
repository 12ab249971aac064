/- agiolaw02.WireOnce, walked. -/
import Derived.Test.YtchlceolccfdhaaDoorAwake2
import Derived.Test.YtchlceolccfdhaaDoorPlainBack
import Derived.Deep.RegionWith
namespace Go.Proofs.YtchlceolccfdhaaDoor
open Go.RowKit Agio

set_option maxRecDepth 100000 in
set_option maxHeartbeats 4000000 in
theorem wireOnce_any (w : World) (hG : GoodG w) (B : Option Addr) (m d : Nat) (b : List UInt8) (hr : RdB w B m b) (hd : m ≤ d) (hb : b.length ≤ 140737488351232) :
    Calls Tryd.prog 4 #[.slice B m d] w fun ev w' => ev = .returned (.bool true) ∧ Upd [] [] w w' := by
  obtain ⟨n, k, bad, hu⟩ : ∃ n k bad, uv b = (n, k, bad) := ⟨_, _, _, rfl⟩
  have hok := uv_ok (l := b)
  have hbad := uv_bad (l := b)
  rw [hu] at hok hbad
  obtain rfl := hr.len
  have hB := hr.lt
  by_cases h0 : bad = 0
  · subst h0
    have ht := Lib.hid (uv_once hu)
    obtain ⟨_, hk, hk10, hU⟩ := hok rfl
    have HU := Lib.hid hu
    clear hok hbad hu
    go_enter Tryd.func4, Tryd.ntmps4
    repeat' ((fail_if_success (with_reducible refine stop_append rfl ?_)); (fail_if_success (with_reducible refine stop_copy rfl ?_)); first | go_values | go_skip | go_guarded | go_step | go_upon | (simp only []; go_at_K))
    refine (awake02 w hG).mono ?_
    rintro ev w1 ⟨rfl, hu1⟩
    have hr1 := hr.upd hu1 (by simp)
    repeat' ((fail_if_success (with_reducible refine stop_append rfl ?_)); (fail_if_success (with_reducible refine stop_copy rfl ?_)); first | go_values | go_skip | go_guarded | go_step | go_upon | (simp only []; go_at_K))
    refine (wireFrom w1 B b.length d b hr1 (by omega)).mono ?_
    rintro ev w2 ⟨g, A2, k2, c2, rfl, hrr, hu2⟩
    have hr2 := hr1.upd hu2 (by simp)
    repeat' ((fail_if_success (with_reducible refine stop_append rfl ?_)); (fail_if_success (with_reducible refine stop_copy rfl ?_)); first | go_values | go_skip | go_guarded | go_step | go_upon | (simp only []; go_at_K))
    have C := readerUint w2 g A2 k2 c2 b 0 hrr (by omega)
    rw [List.drop_zero, HU.out, flt_zero] at C
    refine C.mono ?_
    rintro ev w3 ⟨rfl, hrr3, hu3⟩
    have hrr3 : Rr w3 g A2 k2 c2 b k := by simpa using hrr3
    have hg : w1.heap.size ≤ g := by simpa using hu2.fresh g (by simp)
    have hBg : 0 < b.length → ∀ j ∈ ablk B, j ∉ [g] := by intro h0 j hj; simp; rintro rfl; have := hB h0 _ hj; have := hu1.size; omega
    have hr3 := hr2.upd' hu3 hBg
    have U3 : Upd [] [] w w3 := ((((hu1.trans hu2).gives (b' := [g]) (fun j hj => (hu1.trans hu2).fresh j (by simp at hj; simp [hj]))).trans hu3)).gives (by simp)
    clear C hr1 hr2 hrr hu2 hu3
    repeat' ((fail_if_success (with_reducible refine stop_append rfl ?_)); (fail_if_success (with_reducible refine stop_copy rfl ?_)); first | go_values | go_skip | go_guarded | go_step | go_upon | (simp only []; go_at_K))
    refine (writerUint n _ w3.heap.size none 0 0 [] (by omega) (by simpa using hU) ⟨Blk.new _ _ _, (OwnB.nil _ _).alloc _⟩ (by decide)).mono ?_
    rintro ev w4 ⟨rfl, A4, k4, c4, hw4, hu4⟩
    rw [Int.toNat_natCast, List.nil_append] at hw4
    have hrr4 := (hrr3.upd ((Upd.refl [] _).alloc _) (by simp)).upd hu4 (by
      intro j hj; simp [ablk]; rintro rfl
      have := hrr3.blk.lt
      rcases List.mem_cons.1 hj with rfl | hj
      · omega
      · have := hrr3.own.own.lt _ hj; omega)
    have hr4 := (hr3.alloc (.cells #[.slice none 0 0] 42)).upd' hu4 (by intro h0 j hj; simp [ablk]; rintro rfl; have := hB h0 _ hj; have := U3.size; omega)
    have U4 : Upd [] [] w w4 := ((((U3.alloc _).gives (b' := w3.heap.size :: ablk none) (by have := U3.size; simp [ablk]; exact this)).trans hu4)).gives (by simp)
    have hlen : (leb n).length ≤ 140737488355328 := by have := leb_len hU; simp at this ⊢; omega
    clear hrr3 hr3 U3 hu4
    repeat' ((fail_if_success (with_reducible refine stop_append rfl ?_)); (fail_if_success (with_reducible refine stop_copy rfl ?_)); first | go_values | go_skip | go_guarded | go_step | go_upon | (simp only []; go_at_K))
    have hw4d : Wr w4.drew w3.heap.size A4 k4 c4 (leb n) := ⟨hw4.blk, ⟨hw4.own.len, hw4.own.own⟩⟩
    have hrr4d : Rr w4.drew g A2 k2 c2 b k := ⟨hrr4.blk, ⟨hrr4.own.len, hrr4.own.own⟩, hrr4.le⟩
    have hx1 : (0 : Int) ≤ (k : Int) := by omega
    have hx2 : (k : Int) ≤ (d : Int) := by have : k ≤ b.length := hk; omega
    have hx3 : IntKind.i64.wrap ((b.length : Int) - ((b.length - k : Nat) : Int)) = (k : Int) := by
      have : k ≤ b.length := hk
      rw [IntKind.wrap_i64]; omega
    have hr4d : RdB w4.drew B k (b.take k) := by
      have := (Rd.take hr4 (k := k) hk).drew
      simpa [RdB, b8s, List.map_take] using this
    rw [ht.out] at hr4d
    clear HU ht
    go_region_with (first
      | (go_at_call 26; refine (writerTold _ w3.heap.size A4 k4 c4 _ hw4d hlen).mono ?_; rintro ev w5 ⟨A5, k5, c5, rfl, ho5, hu5⟩; have hrr5 := hrr4d.upd hu5 (by simp); have hst5 := strOf ho5.rd c5; have hst5' := fun N => strOf (ho5.rd.drewN N) c5; have hsb5 := strOf (hr4d.upd hu5 (by simp)) d; have hsb5' := fun N => strOf ((hr4d.upd hu5 (by simp)).drewN N) d)
      | (go_at_call 24; refine (readerLeft _ g A2 k2 c2 b _ hrr5 (by omega)).mono ?_; rintro ev w6 ⟨rfl, nq, rfl⟩))
    all_goals (repeat' ((fail_if_success (with_reducible refine stop_append rfl ?_)); (fail_if_success (with_reducible refine stop_copy rfl ?_)); first | go_values | go_skip | go_guarded | go_step | go_upon | (simp only []; go_at_K)))
    all_goals go_ret
    all_goals exact ⟨rfl, by first | exact ((U4.drew.trans hu5).gives (b' := []) (by simp)).drewN _ | exact (U4.drew.trans hu5).gives (b' := []) (by simp)⟩
  · have HU := Lib.hid hu
    obtain ⟨rfl, rfl, hb2⟩ := hbad h0
    clear hok hbad hu
    go_enter Tryd.func4, Tryd.ntmps4
    repeat' ((fail_if_success (with_reducible refine stop_append rfl ?_)); (fail_if_success (with_reducible refine stop_copy rfl ?_)); first | go_values | go_skip | go_guarded | go_step | go_upon | (simp only []; go_at_K))
    refine (awake02 w hG).mono ?_
    rintro ev w1 ⟨rfl, hu1⟩
    have hr1 := hr.upd hu1 (by simp)
    repeat' ((fail_if_success (with_reducible refine stop_append rfl ?_)); (fail_if_success (with_reducible refine stop_copy rfl ?_)); first | go_values | go_skip | go_guarded | go_step | go_upon | (simp only []; go_at_K))
    refine (wireFrom w1 B b.length d b hr1 (by omega)).mono ?_
    rintro ev w2 ⟨g, A2, k2, c2, rfl, hrr, hu2⟩
    have hr2 := hr1.upd hu2 (by simp)
    repeat' ((fail_if_success (with_reducible refine stop_append rfl ?_)); (fail_if_success (with_reducible refine stop_copy rfl ?_)); first | go_values | go_skip | go_guarded | go_step | go_upon | (simp only []; go_at_K))
    have C := readerUint w2 g A2 k2 c2 b 0 hrr (by omega)
    rw [List.drop_zero, HU.out, flt_pos h0] at C
    refine C.mono ?_
    rintro ev w3 ⟨rfl, hrr3, hu3⟩
    have hrr3 : Rr w3 g A2 k2 c2 b 0 := by simpa using hrr3
    have U3 : Upd [] [] w w3 := ((((hu1.trans hu2).gives (b' := [g]) (fun j hj => (hu1.trans hu2).fresh j (by simp at hj; simp [hj]))).trans hu3)).gives (by simp)
    clear C hr1 hr2 hrr hu2 hu3 hu1
    repeat' ((fail_if_success (with_reducible refine stop_append rfl ?_)); (fail_if_success (with_reducible refine stop_copy rfl ?_)); first | go_values | go_skip | go_guarded | go_step | go_upon | (simp only []; go_at_K))
    refine (readerLeft w3 g A2 k2 c2 b 0 hrr3 (by omega)).mono ?_
    rintro ev w4 ⟨rfl, nq, rfl⟩
    rw [Nat.sub_zero]
    repeat' ((fail_if_success (with_reducible refine stop_append rfl ?_)); (fail_if_success (with_reducible refine stop_copy rfl ?_)); first | go_values | go_skip | go_guarded | go_step | go_upon | (simp only []; go_at_K))
    go_ret
    exact ⟨rfl, U3.drewN _⟩
end Go.Proofs.YtchlceolccfdhaaDoor
