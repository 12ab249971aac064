/- wire.Code. -/
import Derived.Test.YtchlceolccfdhaaDoorErrs3
import Derived.Recover
namespace Go.Proofs.YtchlceolccfdhaaDoor
open Go.RowKit Go.Extern.Stop Go.Stop Go.Extern Agio

theorem code_idle (p : Addr) (w : World) :
    CallsD Tryd.prog 63 #[.pointer (some p)] .returning w fun e u' w' => e = .returned (.tuple #[]) ∧ u' = .returning ∧ w' = w := by
  refine callsD_of_wpS Tryd.func63 rfl fun c₀ cs hu => ?_
  apply wpS_seq
  apply wpS_region
  simp [wpOpsS, go_sem, recoverD, hu, Tryd.ntmps63, Exit.thenS]
  refine wpS_cond (t := false) (by simp [Act.eval, Array.replicate]) ?_
  simp only [Bool.false_eq_true, if_false]
  refine wpS_of_wp (wp_skip ?_)
  cases c₀
  simp_all [bodyPostS, results, Tryd.results63]

set_option maxRecDepth 100000 in
theorem codeNil (w : World) : Calls Tryd.prog 31 #[.nilIface] w fun ev w' => ev = .returned (.int .i64 0) ∧ Upd [] [] w w' := by
  go_enter_defers Tryd.func31, Tryd.ntmps31
  repeat' ((fail_if_success (refine stop_append rfl ?_)); (fail_if_success (refine stop_copy rfl ?_)); first | go_values | go_skip | go_guarded | go_step | go_upon | (simp only []; go_at_K))
  simp [bodyPostD, Leaves, results, Tryd.results31, go_sem]
  exact (Upd.refl _ _).alloc _

set_option maxRecDepth 100000 in
set_option maxHeartbeats 1000000 in
theorem codeEr (e0 : Er) (w : World) (hG : GoodG w) : Calls Tryd.prog 31 #[e0.val] w fun ev w' => ev = .returned (.int .i64 e0.code) ∧ Upd [] [] w w' := by
  have hmf : ∀ (fn : Fn) (first cap : Array Value) (w : World), (Instr.makeFunc fn first cap).run Tryd.prog w = .ok (.func fn first cap) w := fun _ _ _ _ => rfl
  obtain ⟨t, x, hx⟩ := e0.iface
  have C := errorsAsErrno e0 (w.heap.size + 1) 0 ((w.alloc (.cells #[.int .i64 0] 53)).alloc (.cells #[.int .i64 0] 53)) ((hG.alloc _).alloc _) (by simpa using Blk.new (w.alloc (.cells #[.int .i64 0] 53)) 53 #[.int .i64 0])
  rw [hx] at C ⊢
  clear hx
  go_enter_defers Tryd.func31, Tryd.ntmps31
  repeat' ((fail_if_success (refine stop_append rfl ?_)); (fail_if_success (refine stop_copy rfl ?_)); first | go_values | go_skip | go_guarded | go_step | go_upon | (simp only []; go_at_K))
  refine C.mono ?_
  rintro ev w1 ⟨rfl, hb1, hu1⟩
  have hcF := hb1.cell 0
  have hb0 : Blk w1 w.heap.size 53 #[.int .i64 0] := ((Blk.new w 53 #[.int .i64 0]).alloc _).upd hu1 (by simp)
  have hc0 := hb0.cell 0
  have hf0 := hb0.frozen 0
  simp at hcF hc0
  repeat' ((fail_if_success (refine stop_append rfl ?_)); (fail_if_success (refine stop_copy rfl ?_)); first | go_values | go_skip | go_guarded | go_step | go_upon | (simp only []; go_at_K))
  refine leaves_cons (f := 63) (args := #[.pointer (some ⟨w.heap.size, 0, none⟩)]) (by simp) (by simp [go_sem]) ?_
  refine (code_idle ⟨w.heap.size, 0, none⟩ _).mono ?_
  rintro e u' w'' ⟨rfl, rfl, rfl⟩
  simp [Leaves, settle, results, Tryd.results31, go_sem, hc0]
  exact ((((((Upd.refl [] w).alloc _).alloc _).gives (b' := [w.heap.size + 1]) (by simp)).trans hu1).setCell (.inr (by simp)) _).gives (by simp)
end Go.Proofs.YtchlceolccfdhaaDoor
