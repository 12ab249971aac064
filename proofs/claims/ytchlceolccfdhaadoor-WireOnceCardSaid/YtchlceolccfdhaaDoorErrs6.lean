/- wire.At; wire.Code and wire.At of an error that may be nil. -/
import Derived.Test.YtchlceolccfdhaaDoorErrs5
import Derived.Test.YtchlceolccfdhaaDoorReader
namespace Go.Proofs.YtchlceolccfdhaaDoor
open Go.RowKit Go.Extern.Stop Go.Stop Go.Extern Agio

theorem at_idle (p : Addr) (w : World) :
    CallsD Tryd.prog 67 #[.pointer (some p)] .returning w fun e u' w' => e = .returned (.tuple #[]) ∧ u' = .returning ∧ w' = w := by
  refine callsD_of_wpS Tryd.func67 rfl fun c₀ cs hu => ?_
  apply wpS_seq
  apply wpS_region
  simp [wpOpsS, go_sem, recoverD, hu, Tryd.ntmps67, Exit.thenS]
  refine wpS_cond (t := false) (by simp [Act.eval, Array.replicate]) ?_
  simp only [Bool.false_eq_true, if_false]
  refine wpS_of_wp (wp_skip ?_)
  cases c₀
  simp_all [bodyPostS, results, Tryd.results67]

set_option maxRecDepth 100000 in
theorem errorsAsNil (t : Value) (w : World) : Calls Tryd.prog 64 #[.nilIface, t] w fun ev w' => ev = .returned (.bool false) ∧ w = w' := by
  go_enter Tryd.func64, Tryd.ntmps64
  repeat' ((fail_if_success (refine stop_append rfl ?_)); (fail_if_success (refine stop_copy rfl ?_)); first | go_values | go_skip | go_guarded | go_step | go_upon | (simp only []; go_at_K))
  go_ret
  exact ⟨rfl, rfl⟩

set_option maxRecDepth 100000 in
set_option maxHeartbeats 1000000 in
theorem atNil (w : World) : Calls Tryd.prog 35 #[.nilIface] w fun ev w' => ev = .returned (.int .i64 (-1)) ∧ Upd [] [] w w' := by
  have hmf : ∀ (fn : Fn) (first cap : Array Value) (w : World), (Instr.makeFunc fn first cap).run Tryd.prog w = .ok (.func fn first cap) w := fun _ _ _ _ => rfl
  go_enter_defers Tryd.func35, Tryd.ntmps35
  repeat' ((fail_if_success (refine stop_append rfl ?_)); (fail_if_success (refine stop_copy rfl ?_)); first | go_values | go_skip | go_guarded | go_step | go_upon | (simp only []; go_at_K))
  refine (errorsAsNil _ _).mono ?_
  rintro ev w1 ⟨rfl, rfl⟩
  repeat' ((fail_if_success (refine stop_append rfl ?_)); (fail_if_success (refine stop_copy rfl ?_)); first | go_values | go_skip | go_guarded | go_step | go_upon | (simp only []; go_at_K))
  refine leaves_cons (f := 67) (args := #[.pointer (some ⟨w.heap.size, 0, none⟩)]) (by simp) (by simp [go_sem]) ?_
  refine (at_idle ⟨w.heap.size, 0, none⟩ _).mono ?_
  rintro e u' w'' ⟨rfl, rfl, rfl⟩
  simp [Leaves, settle, results, Tryd.results35, go_sem]
  exact ((Upd.refl _ _).alloc _).alloc _

set_option maxRecDepth 100000 in
set_option maxHeartbeats 1000000 in
theorem atEr (e0 : Er) (w : World) (hG : GoodG w) : Calls Tryd.prog 35 #[e0.val] w fun ev w' => ev = .returned (.int .i64 (e0.at_.getD (-1))) ∧ Upd [] [] w w' := by
  have hmf : ∀ (fn : Fn) (first cap : Array Value) (w : World), (Instr.makeFunc fn first cap).run Tryd.prog w = .ok (.func fn first cap) w := fun _ _ _ _ => rfl
  obtain ⟨t, x, hx⟩ := e0.iface
  have C := errorsAsWf e0 (w.heap.size + 1) ((w.alloc (.cells #[.int .i64 0] 3)).alloc (.cells #[.int .i64 0, .int .i64 0] 133)) ((hG.alloc _).alloc _) (by simpa using Blk.new (w.alloc (.cells #[.int .i64 0] 3)) 133 #[.int .i64 0, .int .i64 0])
  rw [hx] at C ⊢
  clear hx
  cases h : e0.at_ with
  | none =>
    rw [h] at C
    go_enter_defers Tryd.func35, Tryd.ntmps35
    repeat' ((fail_if_success (refine stop_append rfl ?_)); (fail_if_success (refine stop_copy rfl ?_)); first | go_values | go_skip | go_guarded | go_step | go_upon | (simp only []; go_at_K))
    refine C.mono ?_
    rintro ev w1 ⟨rfl, hbs, hbn, hu1⟩
    have hb0 : Blk w1 w.heap.size 3 #[.int .i64 0] := ((Blk.new w 3 #[.int .i64 0]).alloc _).upd hu1 (by simp)
    have hc0 := hb0.cell 0
    have hf0 := hb0.frozen 0
    simp at hc0
    repeat' ((fail_if_success (refine stop_append rfl ?_)); (fail_if_success (refine stop_copy rfl ?_)); first | go_values | go_skip | go_guarded | go_step | go_upon | (simp only []; go_at_K))
    refine leaves_cons (f := 67) (args := #[.pointer (some ⟨w.heap.size, 0, none⟩)]) (by simp) (by simp [go_sem]) ?_
    refine (at_idle ⟨w.heap.size, 0, none⟩ _).mono ?_
    rintro e u' w'' ⟨rfl, rfl, rfl⟩
    simp [Leaves, settle, results, Tryd.results35, go_sem, hc0]
    exact ((((((Upd.refl [] w).alloc _).alloc _).gives (b' := [w.heap.size + 1]) (by simp)).trans hu1).setCell (.inr (by simp)) _).gives (by simp)
  | some m =>
    rw [h] at C
    go_enter_defers Tryd.func35, Tryd.ntmps35
    repeat' ((fail_if_success (refine stop_append rfl ?_)); (fail_if_success (refine stop_copy rfl ?_)); first | go_values | go_skip | go_guarded | go_step | go_upon | (simp only []; go_at_K))
    refine C.mono ?_
    rintro ev w1 ⟨rfl, hbs, hbn, hu1⟩
    have hb0 : Blk w1 w.heap.size 3 #[.int .i64 0] := ((Blk.new w 3 #[.int .i64 0]).alloc _).upd hu1 (by simp)
    have hc0 := hb0.cell 0
    have hf0 := hb0.frozen 0
    simp at hc0
    obtain ⟨n, hbf⟩ := hbs m rfl
    have hcF := hbf.cell 1
    simp at hcF
    clear hbs hbn
    repeat' ((fail_if_success (refine stop_append rfl ?_)); (fail_if_success (refine stop_copy rfl ?_)); first | go_values | go_skip | go_guarded | go_step | go_upon | (simp only []; go_at_K))
    refine leaves_cons (f := 67) (args := #[.pointer (some ⟨w.heap.size, 0, none⟩)]) (by simp) (by simp [go_sem]) ?_
    refine (at_idle ⟨w.heap.size, 0, none⟩ _).mono ?_
    rintro e u' w'' ⟨rfl, rfl, rfl⟩
    simp [Leaves, settle, results, Tryd.results35, go_sem, hc0]
    exact ((((((Upd.refl [] w).alloc _).alloc _).gives (b' := [w.heap.size + 1]) (by simp)).trans hu1).setCell (.inr (by simp)) _).gives (by simp)

/-- An error, or none. -/
def errV : Option Er → Value | none => .nilIface | some e => e.val
def codeOf : Option Er → Int | none => 0 | some e => e.code
def atOf : Option Er → Int | none => -1 | some e => e.at_.getD (-1)
theorem flt_errV (bad a : Nat) : flt bad a = errV (if bad = 0 then none else some (.wf (bad : Int) (a : Int))) := by
  unfold flt
  split <;> rfl
theorem codeAny (o : Option Er) (w : World) (hG : GoodG w) : Calls Tryd.prog 31 #[errV o] w fun ev w' => ev = .returned (.int .i64 (codeOf o)) ∧ Upd [] [] w w' := by
  cases o with
  | none => exact codeNil w
  | some e => exact codeEr e w hG
theorem atAny (o : Option Er) (w : World) (hG : GoodG w) : Calls Tryd.prog 35 #[errV o] w fun ev w' => ev = .returned (.int .i64 (atOf o)) ∧ Upd [] [] w w' := by
  cases o with
  | none => exact atNil w
  | some e => exact atEr e w hG
end Go.Proofs.YtchlceolccfdhaaDoor
