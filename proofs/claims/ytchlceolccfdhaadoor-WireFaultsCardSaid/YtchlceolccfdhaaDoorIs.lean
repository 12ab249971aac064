/- errors.is and errors.Is at a number as the target, of any error of this program's kinds. -/
import Derived.Test.YtchlceolccfdhaaDoorErrs4
namespace Go.Proofs.YtchlceolccfdhaaDoor
open Go.RowKit Go.Extern.Stop Go.Stop Go.Extern Agio

theorem methodComparable (h : Value) (w : World) : (Go.method 361 195 (.agg #[h]) "Comparable").run Tryd.prog w = .ok (159, .agg #[h]) w := by kernel_rfl
theorem comparableErrno (w : World) : ((ReflectliteType.method fun t => do Rtype.noPackHeld "Comparable" t; Functor.map (fun a : TypeInfo => Value.bool a.comparable) (typeInfo t)) #[.agg #[.pointer (some ⟨1, 53, none⟩)]]).run Tryd.prog w = .ok (.bool true) w := by kernel_rfl
theorem eqErrno (a b : Int) (w : World) : (binOp .eql 36 (.iface 53 (.int .i64 a)) (.iface 53 (.int .i64 b))).run Tryd.prog w = .ok (.bool (a == b)) w := by kernel_rfl
theorem eqWf (v x : Value) (w : World) : (binOp .eql 36 (.iface 133 v) (.iface 53 x)).run Tryd.prog w = .ok (.bool false) w := by kernel_rfl
theorem eqCf (v x : Value) (w : World) : (binOp .eql 36 (.iface 144 v) (.iface 53 x)).run Tryd.prog w = .ok (.bool false) w := by kernel_rfl
theorem eqAf (v x : Value) (w : World) : (binOp .eql 36 (.iface 160 v) (.iface 53 x)).run Tryd.prog w = .ok (.bool false) w := by kernel_rfl
theorem eqNf (v x : Value) (w : World) : (binOp .eql 36 (.iface 180 v) (.iface 53 x)).run Tryd.prog w = .ok (.bool false) w := by kernel_rfl

set_option maxRecDepth 100000 in
set_option maxHeartbeats 4000000 in
theorem is_code (e0 : Er) (tn : Int) (w : World) :
    Calls Tryd.prog 66 #[e0.val, .iface 53 (.int .i64 tn), .bool true] w fun ev w' => ev = .returned (.bool (e0.code == tn)) ∧ Upd [] [] w w' := by
  go_enter Tryd.func66, Tryd.ntmps66
  repeat' ((fail_if_success (refine stop_append rfl ?_)); (fail_if_success (refine stop_copy rfl ?_)); first | go_values | go_skip | go_guarded | go_step | go_upon | (simp only []; go_at_K))
  go_loopw [0] (fun v wr => ∃ e : Er, erIn v e ∧ e.code = e0.code ∧ Upd [] [] w wr) (fun v _ => vdeep v)
  case atStart => exact ⟨e0, rfl, rfl, Upd.refl _ _⟩
  case round =>
    obtain ⟨e, rfl, hcode, hu⟩ := hrel
    have HC := Lib.hid hcode; clear hcode
    cases e with
    | no n =>
      have q := eqErrno n tn
      have iI := assertIsErrno
      have iU := assertUnErrno
      have iS := assertUsErrno
      have E0 : Hid (e0.code = n) := HC.out.symm
      simp only [Er.val]
      cases hd : (n == tn)
      all_goals
        have HD := Lib.hid hd
        rw [hd] at q; clear hd
        repeat' ((fail_if_success (refine stop_append rfl ?_)); (fail_if_success (refine stop_copy rfl ?_)); first | go_values | go_skip | go_guarded | go_step | go_upon | (simp only []; go_at_K))
        go_ret
        exact ⟨by rw [E0.out, show (n == tn) = _ from HD.out]; rfl, hu⟩
    | wf n m =>
      have q := eqWf
      have iI := assertIsWf
      have iU := assertUnWf
      have mU := methodUnwrapWf
      simp only [Er.val]
      repeat' ((fail_if_success (refine stop_append rfl ?_)); (fail_if_success (refine stop_copy rfl ?_)); first | go_values | go_skip | go_guarded | go_step | go_upon | (simp only []; go_at_K))
      refine (unwrapWf n m wr).mono ?_
      rintro ev w1 ⟨rfl, hu1⟩
      repeat' ((fail_if_success (refine stop_append rfl ?_)); (fail_if_success (refine stop_copy rfl ?_)); first | go_values | go_skip | go_guarded | go_step | go_upon | (simp only []; go_at_K))
      refine ⟨⟨(Er.no n), rfl, HC.out, hu.trans hu1⟩, ?_⟩
      exact erLt (Er.no n) (Er.wf n m) (by simp [Er.deep])
    | af n =>
      have q := eqAf
      have iI := assertIsAf
      have iU := assertUnAf
      have mU := methodUnwrapAf
      simp only [Er.val]
      repeat' ((fail_if_success (refine stop_append rfl ?_)); (fail_if_success (refine stop_copy rfl ?_)); first | go_values | go_skip | go_guarded | go_step | go_upon | (simp only []; go_at_K))
      refine (unwrapAf n wr).mono ?_
      rintro ev w1 ⟨rfl, hu1⟩
      repeat' ((fail_if_success (refine stop_append rfl ?_)); (fail_if_success (refine stop_copy rfl ?_)); first | go_values | go_skip | go_guarded | go_step | go_upon | (simp only []; go_at_K))
      refine ⟨⟨(Er.no n), rfl, HC.out, hu.trans hu1⟩, ?_⟩
      exact erLt (Er.no n) (Er.af n) (by simp [Er.deep])
    | nf n =>
      have q := eqNf
      have iI := assertIsNf
      have iU := assertUnNf
      have mU := methodUnwrapNf
      simp only [Er.val]
      repeat' ((fail_if_success (refine stop_append rfl ?_)); (fail_if_success (refine stop_copy rfl ?_)); first | go_values | go_skip | go_guarded | go_step | go_upon | (simp only []; go_at_K))
      refine (unwrapNf n wr).mono ?_
      rintro ev w1 ⟨rfl, hu1⟩
      repeat' ((fail_if_success (refine stop_append rfl ?_)); (fail_if_success (refine stop_copy rfl ?_)); first | go_values | go_skip | go_guarded | go_step | go_upon | (simp only []; go_at_K))
      refine ⟨⟨(Er.no n), rfl, HC.out, hu.trans hu1⟩, ?_⟩
      exact erLt (Er.no n) (Er.nf n) (by simp [Er.deep])
    | cf e =>
      have q := eqCf
      have iI := assertIsCf
      have iU := assertUnCf
      have mU := methodUnwrapCf
      obtain ⟨t, x, hx⟩ := e.iface
      simp only [Er.val, hx]
      have HX := Lib.hid hx; clear hx
      repeat' ((fail_if_success (refine stop_append rfl ?_)); (fail_if_success (refine stop_copy rfl ?_)); first | go_values | go_skip | go_guarded | go_step | go_upon | (simp only []; go_at_K))
      refine (unwrapCf t x wr).mono ?_
      rintro ev w1 ⟨rfl, hu1⟩
      repeat' ((fail_if_success (refine stop_append rfl ?_)); (fail_if_success (refine stop_copy rfl ?_)); first | go_values | go_skip | go_guarded | go_step | go_upon | (simp only []; go_at_K))
      refine ⟨⟨e, HX.out.symm, HC.out, hu.trans hu1⟩, ?_⟩
      rw [← HX.out]
      exact erLt e (Er.cf e) (by simp [Er.deep])

set_option maxRecDepth 100000 in
set_option maxHeartbeats 1000000 in
theorem errorsIs (e0 : Er) (tn : Int) (w : World) : Calls Tryd.prog 34 #[e0.val, .iface 53 (.int .i64 tn)] w fun ev w' => ev = .returned (.bool (e0.code == tn)) ∧ Upd [] [] w w' := by
  have h1 := @run_callFunc_extern Tryd.prog 65 _ ReflectliteType.typeOf Tryd.func65 (by kernel_rfl) (by kernel_rfl) (by kernel_rfl) (by kernel_rfl)
  have h2 := @run_callFunc_extern Tryd.prog 159 _ (ReflectliteType.method fun t => do Rtype.noPackHeld "Comparable" t; pure (.bool (← typeInfo t).comparable)) Tryd.func159 (by kernel_rfl) (by kernel_rfl) (by kernel_rfl) (by kernel_rfl)
  have tO := typeOfErrno
  have mC := methodComparable
  have cE := comparableErrno
  obtain ⟨t, x, hx⟩ := e0.iface
  have C := is_code e0 tn w
  rw [hx] at C ⊢
  clear hx
  go_enter Tryd.func34, Tryd.ntmps34
  repeat' ((fail_if_success (refine stop_append rfl ?_)); (fail_if_success (refine stop_copy rfl ?_)); first | go_values | go_skip | go_guarded | go_step | go_upon | (simp only []; go_at_K))
  refine C.mono ?_
  rintro ev w1 ⟨rfl, hu1⟩
  repeat' ((fail_if_success (refine stop_append rfl ?_)); (fail_if_success (refine stop_copy rfl ?_)); first | go_values | go_skip | go_guarded | go_step | go_upon | (simp only []; go_at_K))
  go_ret
  exact ⟨rfl, hu1⟩
end Go.Proofs.YtchlceolccfdhaaDoor
