/- errors.As and wire.Code, where it is known what errors.as answers. -/
import Derived.Test.YtchlceolccfdhaaDoorJoin
import Derived.Recover
namespace Go.Proofs.YtchlceolccfdhaaDoor
open Go.RowKit Go.Extern.Stop Go.Stop Go.Extern Agio

set_option maxRecDepth 100000 in
set_option maxHeartbeats 4000000 in
/-- errors.As, where it is known what errors.as answers. -/
theorem errorsAsErrno_of (t : TypeId) (x : Value) (g : Nat) (w : World) (hG : GoodG w) (b : Bool) (R : World → Prop)
    (C : Calls Tryd.prog 102 #[.iface t x, .iface 120 (.pointer (some ⟨g, 0, none⟩)), .agg #[.pointer (some ⟨1, 120, none⟩), .pointer (some ⟨w.heap.size, 0, none⟩), .int .u64 150], .iface 195 (.agg #[.pointer (some ⟨1, 53, none⟩)])] ((w.alloc (.cells #[.pointer (some ⟨g, 0, none⟩)] 120)).alloc (.cells #[.pointer (some ⟨1, 120, none⟩), .pointer (some ⟨w.heap.size, 0, none⟩), .int .u64 150] 187)) fun ev w' => ev = .returned (.bool b) ∧ R w') :
    Calls Tryd.prog 64 #[.iface t x, .iface 120 (.pointer (some ⟨g, 0, none⟩))] w fun ev w' => ev = .returned (.bool b) ∧ R w' := by
  have h6 := @run_callFunc_extern Tryd.prog 99 _ (fun args => ReflectliteValue.unpack (args.getD 0 (.tuple #[]))) Tryd.func99 (by kernel_rfl) (by kernel_rfl) (by kernel_rfl) (by kernel_rfl)
  have h7 := @run_callFunc_extern Tryd.prog 100 _ (ReflectliteValue.methodAny (ReflectliteValue.valueError "reflectlite.Value.Type" 0) (fun t _ _ _ => ReflectliteType.toType t)) Tryd.func100 (by kernel_rfl) (by kernel_rfl) (by kernel_rfl) (by kernel_rfl)
  have h8 := @run_callFunc_extern Tryd.prog 101 _ (ReflectliteValue.method (ReflectliteValue.valueError "reflectlite.Value.IsNil" 0) ReflectliteValue.isNil) Tryd.func101 (by kernel_rfl) (by kernel_rfl) (by kernel_rfl) (by kernel_rfl)
  have h27 := @run_callFunc_extern Tryd.prog 139 _ (ReflectliteType.abiMethod fun t => do pure (.int .u8 (← Rtype.kind t))) Tryd.func139 (by kernel_rfl) (by kernel_rfl) (by kernel_rfl) (by kernel_rfl)
  have h37 := @run_callFunc_extern Tryd.prog 160 _ (ReflectliteType.method ReflectliteType.elem) Tryd.func160 (by kernel_rfl) (by kernel_rfl) (by kernel_rfl) (by kernel_rfl)
  have h38 := @run_callFunc_extern Tryd.prog 161 _ (ReflectliteType.relation "Implements" ReflectliteType.implements_) Tryd.func161 (by kernel_rfl) (by kernel_rfl) (by kernel_rfl) (by kernel_rfl)
  have mK := methodKind
  have mE := methodElem
  have mI := methodImplements
  have f6 := valueOfPErrno
  have f7 := typePErrno
  have k27 := kindPErrno
  have k25 := kindErrno
  have e27 := elemPErrno
  have i25 := implementsErrno
  have n8 := isNilPErrno ⟨w.heap.size, 0, none⟩ ⟨g, 0, none⟩ ((w.alloc (.cells #[.pointer (some ⟨g, 0, none⟩)] 120)).alloc (.cells #[.pointer (some ⟨1, 120, none⟩), .pointer (some ⟨w.heap.size, 0, none⟩), .int .u64 150] 187)) (by simp)
  have hg2 : ((w.alloc (.cells #[.pointer (some ⟨g, 0, none⟩)] 120)).alloc (.cells #[.pointer (some ⟨1, 120, none⟩), .pointer (some ⟨w.heap.size, 0, none⟩), .int .u64 150] 187)).cell? ⟨0, 0, none⟩ = some (.iface 195 (.agg #[.pointer (some ⟨1, 36, none⟩)])) := (hG.alloc _).alloc _
  have HC := Lib.hid C; clear C
  go_enter Tryd.func64, Tryd.ntmps64
  repeat' ((fail_if_success (with_reducible refine stop_append rfl ?_)); (fail_if_success (with_reducible refine stop_copy rfl ?_)); first | go_values | go_skip | go_guarded | go_step | go_upon | (simp only []; go_at_K))
  refine HC.out.mono ?_
  rintro ev w1 ⟨rfl, hR⟩
  clear HC
  repeat' ((fail_if_success (with_reducible refine stop_append rfl ?_)); (fail_if_success (with_reducible refine stop_copy rfl ?_)); first | go_values | go_skip | go_guarded | go_step | go_upon | (simp only []; go_at_K))
  go_ret
  exact ⟨rfl, hR⟩

set_option maxRecDepth 100000 in
set_option maxHeartbeats 4000000 in
/-- errors.As, where it is known what errors.as answers. -/
theorem errorsAsWf_of (t : TypeId) (x : Value) (g : Nat) (w : World) (hG : GoodG w) (b : Bool) (R : World → Prop)
    (C : Calls Tryd.prog 102 #[.iface t x, .iface 134 (.pointer (some ⟨g, 0, none⟩)), .agg #[.pointer (some ⟨1, 134, none⟩), .pointer (some ⟨w.heap.size, 0, none⟩), .int .u64 150], .iface 195 (.agg #[.pointer (some ⟨1, 133, none⟩)])] ((w.alloc (.cells #[.pointer (some ⟨g, 0, none⟩)] 134)).alloc (.cells #[.pointer (some ⟨1, 134, none⟩), .pointer (some ⟨w.heap.size, 0, none⟩), .int .u64 150] 187)) fun ev w' => ev = .returned (.bool b) ∧ R w') :
    Calls Tryd.prog 64 #[.iface t x, .iface 134 (.pointer (some ⟨g, 0, none⟩))] w fun ev w' => ev = .returned (.bool b) ∧ R w' := by
  have h6 := @run_callFunc_extern Tryd.prog 99 _ (fun args => ReflectliteValue.unpack (args.getD 0 (.tuple #[]))) Tryd.func99 (by kernel_rfl) (by kernel_rfl) (by kernel_rfl) (by kernel_rfl)
  have h7 := @run_callFunc_extern Tryd.prog 100 _ (ReflectliteValue.methodAny (ReflectliteValue.valueError "reflectlite.Value.Type" 0) (fun t _ _ _ => ReflectliteType.toType t)) Tryd.func100 (by kernel_rfl) (by kernel_rfl) (by kernel_rfl) (by kernel_rfl)
  have h8 := @run_callFunc_extern Tryd.prog 101 _ (ReflectliteValue.method (ReflectliteValue.valueError "reflectlite.Value.IsNil" 0) ReflectliteValue.isNil) Tryd.func101 (by kernel_rfl) (by kernel_rfl) (by kernel_rfl) (by kernel_rfl)
  have h27 := @run_callFunc_extern Tryd.prog 139 _ (ReflectliteType.abiMethod fun t => do pure (.int .u8 (← Rtype.kind t))) Tryd.func139 (by kernel_rfl) (by kernel_rfl) (by kernel_rfl) (by kernel_rfl)
  have h37 := @run_callFunc_extern Tryd.prog 160 _ (ReflectliteType.method ReflectliteType.elem) Tryd.func160 (by kernel_rfl) (by kernel_rfl) (by kernel_rfl) (by kernel_rfl)
  have h38 := @run_callFunc_extern Tryd.prog 161 _ (ReflectliteType.relation "Implements" ReflectliteType.implements_) Tryd.func161 (by kernel_rfl) (by kernel_rfl) (by kernel_rfl) (by kernel_rfl)
  have mK := methodKind
  have mE := methodElem
  have mI := methodImplements
  have f6 := valueOfPWf
  have f7 := typePWf
  have k27 := kindPWf
  have k25 := kindWf
  have e27 := elemPWf
  have i25 := implementsWf
  have n8 := isNilPWf ⟨w.heap.size, 0, none⟩ ⟨g, 0, none⟩ ((w.alloc (.cells #[.pointer (some ⟨g, 0, none⟩)] 134)).alloc (.cells #[.pointer (some ⟨1, 134, none⟩), .pointer (some ⟨w.heap.size, 0, none⟩), .int .u64 150] 187)) (by simp)
  have hg2 : ((w.alloc (.cells #[.pointer (some ⟨g, 0, none⟩)] 134)).alloc (.cells #[.pointer (some ⟨1, 134, none⟩), .pointer (some ⟨w.heap.size, 0, none⟩), .int .u64 150] 187)).cell? ⟨0, 0, none⟩ = some (.iface 195 (.agg #[.pointer (some ⟨1, 36, none⟩)])) := (hG.alloc _).alloc _
  have HC := Lib.hid C; clear C
  go_enter Tryd.func64, Tryd.ntmps64
  repeat' ((fail_if_success (with_reducible refine stop_append rfl ?_)); (fail_if_success (with_reducible refine stop_copy rfl ?_)); first | go_values | go_skip | go_guarded | go_step | go_upon | (simp only []; go_at_K))
  refine HC.out.mono ?_
  rintro ev w1 ⟨rfl, hR⟩
  clear HC
  repeat' ((fail_if_success (with_reducible refine stop_append rfl ?_)); (fail_if_success (with_reducible refine stop_copy rfl ?_)); first | go_values | go_skip | go_guarded | go_step | go_upon | (simp only []; go_at_K))
  go_ret
  exact ⟨rfl, hR⟩

set_option maxRecDepth 100000 in
set_option maxHeartbeats 1000000 in
theorem code_of (t : TypeId) (x : Value) (n : Int) (w : World)
    (C : Calls Tryd.prog 64 #[.iface t x, .iface 120 (.pointer (some ⟨w.heap.size + 1, 0, none⟩))] ((w.alloc (.cells #[.int .i64 0] 53)).alloc (.cells #[.int .i64 0] 53)) fun ev w' => ev = .returned (.bool true) ∧ Blk w' (w.heap.size + 1) 53 #[.int .i64 n] ∧ Upd [w.heap.size + 1] [w.heap.size + 1] ((w.alloc (.cells #[.int .i64 0] 53)).alloc (.cells #[.int .i64 0] 53)) w') :
    Calls Tryd.prog 31 #[.iface t x] w fun ev w' => ev = .returned (.int .i64 n) ∧ Upd [] [] w w' := by
  have hmf : ∀ (fn : Fn) (first cap : Array Value) (w : World), (Instr.makeFunc fn first cap).run Tryd.prog w = .ok (.func fn first cap) w := fun _ _ _ _ => rfl
  have HC := Lib.hid C; clear C
  go_enter_defers Tryd.func31, Tryd.ntmps31
  repeat' ((fail_if_success (with_reducible refine stop_append rfl ?_)); (fail_if_success (with_reducible refine stop_copy rfl ?_)); first | go_values | go_skip | go_guarded | go_step | go_upon | (simp only []; go_at_K))
  refine HC.out.mono ?_
  rintro ev w1 ⟨rfl, hb1, hu1⟩
  clear HC
  have hcF := hb1.cell 0
  have hb0 : Blk w1 w.heap.size 53 #[.int .i64 0] := ((Blk.new w 53 #[.int .i64 0]).alloc _).upd hu1 (by simp)
  have hc0 := hb0.cell 0
  have hf0 := hb0.frozen 0
  simp at hcF hc0
  repeat' ((fail_if_success (with_reducible refine stop_append rfl ?_)); (fail_if_success (with_reducible refine stop_copy rfl ?_)); first | go_values | go_skip | go_guarded | go_step | go_upon | (simp only []; go_at_K))
  refine leaves_cons (f := 63) (args := #[.pointer (some ⟨w.heap.size, 0, none⟩)]) (by simp) (by simp [go_sem]) ?_
  refine (code_idle ⟨w.heap.size, 0, none⟩ _).mono ?_
  rintro e u' w'' ⟨rfl, rfl, rfl⟩
  simp [Leaves, settle, results, Tryd.results31, go_sem, hc0]
  exact ((((((Upd.refl [] w).alloc _).alloc _).gives (b' := [w.heap.size + 1]) (by simp)).trans hu1).setCell (.inr (by simp)) _).gives (by simp)
set_option maxRecDepth 100000 in
set_option maxHeartbeats 1000000 in
theorem code_none (t : TypeId) (x : Value) (w : World)
    (C : Calls Tryd.prog 64 #[.iface t x, .iface 120 (.pointer (some ⟨w.heap.size + 1, 0, none⟩))] ((w.alloc (.cells #[.int .i64 0] 53)).alloc (.cells #[.int .i64 0] 53)) fun ev w' => ev = .returned (.bool false) ∧ Upd [] [] ((w.alloc (.cells #[.int .i64 0] 53)).alloc (.cells #[.int .i64 0] 53)) w') :
    Calls Tryd.prog 31 #[.iface t x] w fun ev w' => ev = .returned (.int .i64 1) ∧ Upd [] [] w w' := by
  have hmf : ∀ (fn : Fn) (first cap : Array Value) (w : World), (Instr.makeFunc fn first cap).run Tryd.prog w = .ok (.func fn first cap) w := fun _ _ _ _ => rfl
  have HC := Lib.hid C; clear C
  go_enter_defers Tryd.func31, Tryd.ntmps31
  repeat' ((fail_if_success (with_reducible refine stop_append rfl ?_)); (fail_if_success (with_reducible refine stop_copy rfl ?_)); first | go_values | go_skip | go_guarded | go_step | go_upon | (simp only []; go_at_K))
  refine HC.out.mono ?_
  rintro ev w1 ⟨rfl, hu1⟩
  clear HC
  have hb0 : Blk w1 w.heap.size 53 #[.int .i64 0] := ((Blk.new w 53 #[.int .i64 0]).alloc _).upd hu1 (by simp)
  have hc0 := hb0.cell 0
  have hf0 := hb0.frozen 0
  simp at hc0
  repeat' ((fail_if_success (with_reducible refine stop_append rfl ?_)); (fail_if_success (with_reducible refine stop_copy rfl ?_)); first | go_values | go_skip | go_guarded | go_step | go_upon | (simp only []; go_at_K))
  refine leaves_cons (f := 63) (args := #[.pointer (some ⟨w.heap.size, 0, none⟩)]) (by simp) (by simp [go_sem]) ?_
  refine (code_idle ⟨w.heap.size, 0, none⟩ _).mono ?_
  rintro e u' w'' ⟨rfl, rfl, rfl⟩
  simp [Leaves, settle, results, Tryd.results31, go_sem, hc0]
  exact ((((Upd.refl [] w).alloc _).alloc _).trans hu1).setCell (.inr (by simp)) _

end Go.Proofs.YtchlceolccfdhaaDoor
