/- agiolaw05.CmdOnce, walked. -/
import Derived.Test.YtchlceolccfdhaaDoorCmd8
namespace Go.Proofs.YtchlceolccfdhaaDoor
open Go.RowKit Agio

theorem Er.val_iface (e : Er) : ∃ t x, e.val = .iface t x := e.iface
set_option maxRecDepth 100000 in
set_option maxHeartbeats 4000000 in
theorem cmdOnce_any (w : World) (hG : GoodG w) (B : Option Addr) (m d : Nat) (b : List UInt8) (hB : RdB w B m b) (hb : b.length ≤ 140737488355328) :
    Calls Tryd.prog 11 #[.slice B m d] w fun ev w' => ev = .returned (.bool true) ∧ Upd [] [] w w' := by
  have eq := eqCmd
  go_enter Tryd.func11, Tryd.ntmps11
  repeat' ((fail_if_success (with_reducible refine stop_append rfl ?_)); (fail_if_success (with_reducible refine stop_copy rfl ?_)); first | go_values | go_skip | go_guarded | go_step | go_upon | (simp only []; go_at_K))
  refine (awake05 w hG).mono ?_
  rintro ev w1 ⟨rfl, hu1⟩
  have hB1 := hB.upd hu1 (by simp)
  repeat' ((fail_if_success (with_reducible refine stop_append rfl ?_)); (fail_if_success (with_reducible refine stop_copy rfl ?_)); first | go_values | go_skip | go_guarded | go_step | go_upon | (simp only []; go_at_K))
  refine (cmdDecode w1 B m d b hB1 hb).mono ?_
  rintro ev w2 ⟨hT, hu2⟩
  have hB2 := hB1.upd hu2 (by simp)
  have U2 := hu1.trans hu2
  clear hB hB1 hu1 hu2
  rcases hT with ⟨er, h, rfl⟩ | ⟨c, h, rfl⟩
  · clear h
    obtain ⟨t, x, hx⟩ := er.val_iface
    rw [hx]
    have hz : Cm.zero.val = .agg #[.int .i64 0, .int .i64 0, .int .i64 0, .int .i64 0, .int .i64 0, .int .i64 0, .int .i64 0, .int .i64 0, .int .i64 0] := rfl
    rw [hz]
    clear hz hx
    repeat' ((fail_if_success (with_reducible refine stop_append rfl ?_)); (fail_if_success (with_reducible refine stop_copy rfl ?_)); first | go_values | go_skip | go_guarded | go_step | go_upon | (simp only []; go_at_K))
    go_ret
    exact ⟨rfl, U2.alloc _⟩
  · obtain ⟨hm, hcb, hI⟩ := dec_once h
    clear h
    have E := cmdEncode_ok c hm hI
    have M := cmdMay c
    rw [err_ok hm] at M
    rw [hcb] at E
    clear hcb hI hm
    rw [Cm.val_eq] at E M ⊢
    have hC2 := Blk.new w2 68 #[.int .i64 c.k, .int .i64 c.cl, .int .i64 c.sq, .int .i64 c.tm, .int .i64 c.s, .int .i64 c.a, .int .i64 c.p, .int .i64 c.q, .int .i64 c.i]
    repeat' ((fail_if_success (with_reducible refine stop_append rfl ?_)); (fail_if_success (with_reducible refine stop_copy rfl ?_)); first | go_values | go_skip | go_guarded | go_step | go_upon | (simp only []; go_at_K))
    refine (E _).mono ?_
    rintro ev w3 ⟨A3, k3, c3, rfl, ho3, hu3⟩
    have hu3 : Upd [] [] _ w3 := hu3.gives (by simp)
    have hC3 := hC2.upd hu3 (by simp)
    have hB3 := (hB2.alloc _).upd hu3 (by simp)
    have U3 := (U2.alloc _).trans hu3
    have b0 := hC3.cell 0
    have b1 := hC3.cell 1
    have b2 := hC3.cell 2
    have b3 := hC3.cell 3
    have b4 := hC3.cell 4
    have b5 := hC3.cell 5
    have b6 := hC3.cell 6
    have b7 := hC3.cell 7
    have b8 := hC3.cell 8
    simp at b0 b1 b2 b3 b4 b5 b6 b7 b8
    clear hC2 hB2 U2 hu3 E
    repeat' ((fail_if_success (with_reducible refine stop_append rfl ?_)); (fail_if_success (with_reducible refine stop_copy rfl ?_)); first | go_values | go_skip | go_guarded | go_step | go_upon | (simp only []; go_at_K))
    refine (M _).mono ?_
    rintro ev w4 ⟨rfl, hu4⟩
    have hs1 := strOf (ho3.upd hu4 (by simp)).rd c3
    have hs2 := strOf (hB3.upd hu4 (by simp)) d
    have U4 := U3.trans hu4
    clear b0 b1 b2 b3 b4 b5 b6 b7 b8
    repeat' ((fail_if_success (with_reducible refine stop_append rfl ?_)); (fail_if_success (with_reducible refine stop_copy rfl ?_)); first | go_values | go_skip | go_guarded | go_step | go_upon | (simp only []; go_at_K))
    go_ret
    exact ⟨rfl, U4⟩
end Go.Proofs.YtchlceolccfdhaaDoor
