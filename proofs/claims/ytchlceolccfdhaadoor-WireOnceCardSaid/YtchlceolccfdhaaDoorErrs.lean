/- errors.As at the targets *api.Errno and *wire.fault: closed facts on the model's entries for internal/reflectlite, and three small laws on those that read or write memory. -/
import Derived.Test.YtchlceolccfdhaaDoorProg
import Derived.Test.YtchlceolccfdhaaDoorBase
import Derived.LaidEql
import Derived.Stop.Asserts
import Derived.RowKitTokens
namespace Go.Proofs.YtchlceolccfdhaaDoor
open Go.RowKit Go.Extern.Stop Go.Stop Go.Extern Agio

theorem rlm (z : Sem Value) (f : TypeId → Addr → Nat → Nat → Sem Value) (v : Value) :
    ReflectliteValue.method z f #[v] = (do match ← ReflectliteValue.parts v with | none => z | some (t, a, fl) => f t a fl (fl % 32)) := rfl
theorem rls {M : Array Value → Sort _} (v x : Value) (h : ∀ v x, M #[v, x]) (k : ∀ x, M x) : ReflectliteValue.set.match_3 M #[v, x] h k = h v x := rfl
theorem methodKind (h : Value) (w : World) : (Go.method 361 195 (.agg #[h]) "Kind").run Tryd.prog w = .ok (139, h) w := by kernel_rfl
theorem methodElem (h : Value) (w : World) : (Go.method 361 195 (.agg #[h]) "Elem").run Tryd.prog w = .ok (160, .agg #[h]) w := by kernel_rfl
theorem methodImplements (h : Value) (w : World) : (Go.method 361 195 (.agg #[h]) "Implements").run Tryd.prog w = .ok (161, .agg #[h]) w := by kernel_rfl
theorem methodAssignableTo (h : Value) (w : World) : (Go.method 361 195 (.agg #[h]) "AssignableTo").run Tryd.prog w = .ok (158, .agg #[h]) w := by kernel_rfl

/-! ### Errno -/
theorem valueOfPErrno (t : Addr) (w : World) : (ReflectliteValue.unpack (.iface 120 (.pointer (some t)))).run Tryd.prog w
    = .ok (.agg #[.pointer (some ⟨1, 120, none⟩), .pointer (some ⟨w.heap.size, 0, none⟩), .int .u64 150]) (w.alloc (.cells #[.pointer (some t)] 120)) := by kernel_rfl
theorem typePErrno (a : Addr) (w : World) : (ReflectliteValue.methodAny (ReflectliteValue.valueError "reflectlite.Value.Type" 0) (fun t _ _ _ => ReflectliteType.toType t) #[.agg #[.pointer (some ⟨1, 120, none⟩), .pointer (some a), .int .u64 150]]).run Tryd.prog w
    = .ok (.iface 195 (.agg #[.pointer (some ⟨1, 120, none⟩)])) w := by kernel_rfl
theorem kindPErrno (w : World) : ((ReflectliteType.abiMethod fun t => Functor.map (fun a : Nat => Value.int IntKind.u8 (a : Int)) (Rtype.kind t)) #[.pointer (some ⟨1, 120, none⟩)]).run Tryd.prog w = .ok (.int .u8 22) w := by kernel_rfl
theorem kindErrno (w : World) : ((ReflectliteType.abiMethod fun t => Functor.map (fun a : Nat => Value.int IntKind.u8 (a : Int)) (Rtype.kind t)) #[.pointer (some ⟨1, 53, none⟩)]).run Tryd.prog w = .ok (.int .u8 2) w := by kernel_rfl
theorem partsPErrno (a : Addr) (w : World) : (ReflectliteValue.parts (.agg #[.pointer (some ⟨1, 120, none⟩), .pointer (some a), .int .u64 150])).run Tryd.prog w = .ok (some (120, a, 150)) w := by kernel_rfl
theorem isNilPErrno (a p : Addr) (W : World) (ha : W.cell? a = some (.pointer (some p))) :
    (ReflectliteValue.method (ReflectliteValue.valueError "reflectlite.Value.IsNil" 0) ReflectliteValue.isNil #[.agg #[.pointer (some ⟨1, 120, none⟩), .pointer (some a), .int .u64 150]]).run Tryd.prog W = .ok (.bool false) W := by
  rw [rlm]
  simp only [Sem.run_bind, partsPErrno, Result.andThen]
  simp [ReflectliteValue.isNil, loadVar, isAgg, underlying, Tryd.underlying120, ha, Result.andThen]
theorem elemPErrno (w : World) : (ReflectliteType.method ReflectliteType.elem #[.agg #[.pointer (some ⟨1, 120, none⟩)]]).run Tryd.prog w = .ok (.iface 195 (.agg #[.pointer (some ⟨1, 53, none⟩)])) w := by kernel_rfl
theorem implementsErrno (w : World) : (ReflectliteType.relation "Implements" ReflectliteType.implements_ #[.agg #[.pointer (some ⟨1, 53, none⟩)], .iface 195 (.agg #[.pointer (some ⟨1, 36, none⟩)])]).run Tryd.prog w = .ok (.bool true) w := by kernel_rfl
theorem typeOfErrno (v : Value) (w : World) : (ReflectliteType.typeOf #[.iface 53 v]).run Tryd.prog w = .ok (.iface 195 (.agg #[.pointer (some ⟨1, 53, none⟩)])) w := by kernel_rfl
theorem assignableErrno (w : World) : (ReflectliteType.relation "AssignableTo" ReflectliteType.assignableTo #[.agg #[.pointer (some ⟨1, 53, none⟩)], .iface 195 (.agg #[.pointer (some ⟨1, 53, none⟩)])]).run Tryd.prog w = .ok (.bool true) w := by kernel_rfl
theorem elemOfPErrno (w : World) : (Rtype.elem? 120).run Tryd.prog w = .ok (some 53) w := by kernel_rfl
theorem mkErrno (p : Addr) (w : World) : (ReflectliteValue.mk 53 p ReflectliteValue.flagAddr).run Tryd.prog w = .ok (.agg #[.pointer (some ⟨1, 53, none⟩), .pointer (some p), .int .u64 386]) w := by kernel_rfl
theorem elemVErrno (a p : Addr) (W : World) (ha : W.cell? a = some (.pointer (some p))) :
    (ReflectliteValue.method (ReflectliteValue.valueError "reflectlite.Value.Elem" 0) ReflectliteValue.elem #[.agg #[.pointer (some ⟨1, 120, none⟩), .pointer (some a), .int .u64 150]]).run Tryd.prog W
      = .ok (.agg #[.pointer (some ⟨1, 53, none⟩), .pointer (some p), .int .u64 386]) W := by
  rw [rlm]
  simp only [Sem.run_bind, partsPErrno, Result.andThen]
  simp [ReflectliteValue.elem, loadVar, isAgg, underlying, Tryd.underlying120, ha, Result.andThen, elemOfPErrno, mkErrno]
theorem partsAErrno (a : Addr) (w : World) : (ReflectliteValue.parts (.agg #[.pointer (some ⟨1, 53, none⟩), .pointer (some a), .int .u64 386])).run Tryd.prog w = .ok (some (53, a, 386)) w := by kernel_rfl
theorem partsBErrno (a : Addr) (w : World) : (ReflectliteValue.parts (.agg #[.pointer (some ⟨1, 53, none⟩), .pointer (some a), .int .u64 130])).run Tryd.prog w = .ok (some (53, a, 130)) w := by kernel_rfl
theorem directErrno (w : World) : (Rtype.directlyAssignable 53 53).run Tryd.prog w = .ok true w := by kernel_rfl

/-! ### Wf -/
theorem valueOfPWf (t : Addr) (w : World) : (ReflectliteValue.unpack (.iface 134 (.pointer (some t)))).run Tryd.prog w
    = .ok (.agg #[.pointer (some ⟨1, 134, none⟩), .pointer (some ⟨w.heap.size, 0, none⟩), .int .u64 150]) (w.alloc (.cells #[.pointer (some t)] 134)) := by kernel_rfl
theorem typePWf (a : Addr) (w : World) : (ReflectliteValue.methodAny (ReflectliteValue.valueError "reflectlite.Value.Type" 0) (fun t _ _ _ => ReflectliteType.toType t) #[.agg #[.pointer (some ⟨1, 134, none⟩), .pointer (some a), .int .u64 150]]).run Tryd.prog w
    = .ok (.iface 195 (.agg #[.pointer (some ⟨1, 134, none⟩)])) w := by kernel_rfl
theorem kindPWf (w : World) : ((ReflectliteType.abiMethod fun t => Functor.map (fun a : Nat => Value.int IntKind.u8 (a : Int)) (Rtype.kind t)) #[.pointer (some ⟨1, 134, none⟩)]).run Tryd.prog w = .ok (.int .u8 22) w := by kernel_rfl
theorem kindWf (w : World) : ((ReflectliteType.abiMethod fun t => Functor.map (fun a : Nat => Value.int IntKind.u8 (a : Int)) (Rtype.kind t)) #[.pointer (some ⟨1, 133, none⟩)]).run Tryd.prog w = .ok (.int .u8 25) w := by kernel_rfl
theorem partsPWf (a : Addr) (w : World) : (ReflectliteValue.parts (.agg #[.pointer (some ⟨1, 134, none⟩), .pointer (some a), .int .u64 150])).run Tryd.prog w = .ok (some (134, a, 150)) w := by kernel_rfl
theorem isNilPWf (a p : Addr) (W : World) (ha : W.cell? a = some (.pointer (some p))) :
    (ReflectliteValue.method (ReflectliteValue.valueError "reflectlite.Value.IsNil" 0) ReflectliteValue.isNil #[.agg #[.pointer (some ⟨1, 134, none⟩), .pointer (some a), .int .u64 150]]).run Tryd.prog W = .ok (.bool false) W := by
  rw [rlm]
  simp only [Sem.run_bind, partsPWf, Result.andThen]
  simp [ReflectliteValue.isNil, loadVar, isAgg, underlying, Tryd.underlying134, ha, Result.andThen]
theorem elemPWf (w : World) : (ReflectliteType.method ReflectliteType.elem #[.agg #[.pointer (some ⟨1, 134, none⟩)]]).run Tryd.prog w = .ok (.iface 195 (.agg #[.pointer (some ⟨1, 133, none⟩)])) w := by kernel_rfl
theorem implementsWf (w : World) : (ReflectliteType.relation "Implements" ReflectliteType.implements_ #[.agg #[.pointer (some ⟨1, 133, none⟩)], .iface 195 (.agg #[.pointer (some ⟨1, 36, none⟩)])]).run Tryd.prog w = .ok (.bool true) w := by kernel_rfl
theorem typeOfWf (v : Value) (w : World) : (ReflectliteType.typeOf #[.iface 133 v]).run Tryd.prog w = .ok (.iface 195 (.agg #[.pointer (some ⟨1, 133, none⟩)])) w := by kernel_rfl
theorem assignableWf (w : World) : (ReflectliteType.relation "AssignableTo" ReflectliteType.assignableTo #[.agg #[.pointer (some ⟨1, 133, none⟩)], .iface 195 (.agg #[.pointer (some ⟨1, 133, none⟩)])]).run Tryd.prog w = .ok (.bool true) w := by kernel_rfl
theorem elemOfPWf (w : World) : (Rtype.elem? 134).run Tryd.prog w = .ok (some 133) w := by kernel_rfl
theorem mkWf (p : Addr) (w : World) : (ReflectliteValue.mk 133 p ReflectliteValue.flagAddr).run Tryd.prog w = .ok (.agg #[.pointer (some ⟨1, 133, none⟩), .pointer (some p), .int .u64 409]) w := by kernel_rfl
theorem elemVWf (a p : Addr) (W : World) (ha : W.cell? a = some (.pointer (some p))) :
    (ReflectliteValue.method (ReflectliteValue.valueError "reflectlite.Value.Elem" 0) ReflectliteValue.elem #[.agg #[.pointer (some ⟨1, 134, none⟩), .pointer (some a), .int .u64 150]]).run Tryd.prog W
      = .ok (.agg #[.pointer (some ⟨1, 133, none⟩), .pointer (some p), .int .u64 409]) W := by
  rw [rlm]
  simp only [Sem.run_bind, partsPWf, Result.andThen]
  simp [ReflectliteValue.elem, loadVar, isAgg, underlying, Tryd.underlying134, ha, Result.andThen, elemOfPWf, mkWf]
theorem partsAWf (a : Addr) (w : World) : (ReflectliteValue.parts (.agg #[.pointer (some ⟨1, 133, none⟩), .pointer (some a), .int .u64 409])).run Tryd.prog w = .ok (some (133, a, 409)) w := by kernel_rfl
theorem partsBWf (a : Addr) (w : World) : (ReflectliteValue.parts (.agg #[.pointer (some ⟨1, 133, none⟩), .pointer (some a), .int .u64 153])).run Tryd.prog w = .ok (some (133, a, 153)) w := by kernel_rfl
theorem directWf (w : World) : (Rtype.directlyAssignable 133 133).run Tryd.prog w = .ok true w := by kernel_rfl

theorem typeOfCf (v : Value) (w : World) : (ReflectliteType.typeOf #[.iface 144 v]).run Tryd.prog w = .ok (.iface 195 (.agg #[.pointer (some ⟨1, 144, none⟩)])) w := by kernel_rfl
theorem typeOfAf (v : Value) (w : World) : (ReflectliteType.typeOf #[.iface 160 v]).run Tryd.prog w = .ok (.iface 195 (.agg #[.pointer (some ⟨1, 160, none⟩)])) w := by kernel_rfl
theorem typeOfNf (v : Value) (w : World) : (ReflectliteType.typeOf #[.iface 180 v]).run Tryd.prog w = .ok (.iface 195 (.agg #[.pointer (some ⟨1, 180, none⟩)])) w := by kernel_rfl
theorem assignWfErrno (w : World) : (ReflectliteType.relation "AssignableTo" ReflectliteType.assignableTo #[.agg #[.pointer (some ⟨1, 133, none⟩)], .iface 195 (.agg #[.pointer (some ⟨1, 53, none⟩)])]).run Tryd.prog w = .ok (.bool false) w := by kernel_rfl
theorem assignCfErrno (w : World) : (ReflectliteType.relation "AssignableTo" ReflectliteType.assignableTo #[.agg #[.pointer (some ⟨1, 144, none⟩)], .iface 195 (.agg #[.pointer (some ⟨1, 53, none⟩)])]).run Tryd.prog w = .ok (.bool false) w := by kernel_rfl
theorem assignAfErrno (w : World) : (ReflectliteType.relation "AssignableTo" ReflectliteType.assignableTo #[.agg #[.pointer (some ⟨1, 160, none⟩)], .iface 195 (.agg #[.pointer (some ⟨1, 53, none⟩)])]).run Tryd.prog w = .ok (.bool false) w := by kernel_rfl
theorem assignNfErrno (w : World) : (ReflectliteType.relation "AssignableTo" ReflectliteType.assignableTo #[.agg #[.pointer (some ⟨1, 180, none⟩)], .iface 195 (.agg #[.pointer (some ⟨1, 53, none⟩)])]).run Tryd.prog w = .ok (.bool false) w := by kernel_rfl
theorem assignErrnoWf (w : World) : (ReflectliteType.relation "AssignableTo" ReflectliteType.assignableTo #[.agg #[.pointer (some ⟨1, 53, none⟩)], .iface 195 (.agg #[.pointer (some ⟨1, 133, none⟩)])]).run Tryd.prog w = .ok (.bool false) w := by kernel_rfl
theorem assignCfWf (w : World) : (ReflectliteType.relation "AssignableTo" ReflectliteType.assignableTo #[.agg #[.pointer (some ⟨1, 144, none⟩)], .iface 195 (.agg #[.pointer (some ⟨1, 133, none⟩)])]).run Tryd.prog w = .ok (.bool false) w := by kernel_rfl
theorem assignAfWf (w : World) : (ReflectliteType.relation "AssignableTo" ReflectliteType.assignableTo #[.agg #[.pointer (some ⟨1, 160, none⟩)], .iface 195 (.agg #[.pointer (some ⟨1, 133, none⟩)])]).run Tryd.prog w = .ok (.bool false) w := by kernel_rfl
theorem assignNfWf (w : World) : (ReflectliteType.relation "AssignableTo" ReflectliteType.assignableTo #[.agg #[.pointer (some ⟨1, 180, none⟩)], .iface 195 (.agg #[.pointer (some ⟨1, 133, none⟩)])]).run Tryd.prog w = .ok (.bool false) w := by kernel_rfl
theorem assertAsErrno (v : Value) (w : World) : (Instr.typeAssert (.iface 53 v) 36 224 true).run Tryd.prog w = .ok (.tuple #[.nilIface, .bool false]) w := run_typeAssert_lacksB Tryd.underlying224 (by kernel_rfl) (by kernel_rfl) v _ w
theorem assertIsErrno (v : Value) (w : World) : (Instr.typeAssert (.iface 53 v) 36 197 true).run Tryd.prog w = .ok (.tuple #[.nilIface, .bool false]) w := run_typeAssert_lacksB Tryd.underlying197 (by kernel_rfl) (by kernel_rfl) v _ w
theorem assertUnErrno (v : Value) (w : World) : (Instr.typeAssert (.iface 53 v) 36 200 true).run Tryd.prog w = .ok (.tuple #[.nilIface, .bool false]) w := run_typeAssert_lacksB Tryd.underlying200 (by kernel_rfl) (by kernel_rfl) v _ w
theorem assertUsErrno (v : Value) (w : World) : (Instr.typeAssert (.iface 53 v) 36 201 true).run Tryd.prog w = .ok (.tuple #[.nilIface, .bool false]) w := run_typeAssert_lacksB Tryd.underlying201 (by kernel_rfl) (by kernel_rfl) v _ w
theorem assertAsWf (v : Value) (w : World) : (Instr.typeAssert (.iface 133 v) 36 224 true).run Tryd.prog w = .ok (.tuple #[.nilIface, .bool false]) w := run_typeAssert_lacksB Tryd.underlying224 (by kernel_rfl) (by kernel_rfl) v _ w
theorem assertIsWf (v : Value) (w : World) : (Instr.typeAssert (.iface 133 v) 36 197 true).run Tryd.prog w = .ok (.tuple #[.nilIface, .bool false]) w := run_typeAssert_lacksB Tryd.underlying197 (by kernel_rfl) (by kernel_rfl) v _ w
theorem assertUnWf (v : Value) (w : World) : (Instr.typeAssert (.iface 133 v) 36 200 true).run Tryd.prog w = .ok (.tuple #[.iface 133 v, .bool true]) w := run_typeAssert_hasB Tryd.underlying200 (by kernel_rfl) v _ w
theorem assertUsWf (v : Value) (w : World) : (Instr.typeAssert (.iface 133 v) 36 201 true).run Tryd.prog w = .ok (.tuple #[.nilIface, .bool false]) w := run_typeAssert_lacksB Tryd.underlying201 (by kernel_rfl) (by kernel_rfl) v _ w
theorem assertAsCf (v : Value) (w : World) : (Instr.typeAssert (.iface 144 v) 36 224 true).run Tryd.prog w = .ok (.tuple #[.nilIface, .bool false]) w := run_typeAssert_lacksB Tryd.underlying224 (by kernel_rfl) (by kernel_rfl) v _ w
theorem assertIsCf (v : Value) (w : World) : (Instr.typeAssert (.iface 144 v) 36 197 true).run Tryd.prog w = .ok (.tuple #[.nilIface, .bool false]) w := run_typeAssert_lacksB Tryd.underlying197 (by kernel_rfl) (by kernel_rfl) v _ w
theorem assertUnCf (v : Value) (w : World) : (Instr.typeAssert (.iface 144 v) 36 200 true).run Tryd.prog w = .ok (.tuple #[.iface 144 v, .bool true]) w := run_typeAssert_hasB Tryd.underlying200 (by kernel_rfl) v _ w
theorem assertUsCf (v : Value) (w : World) : (Instr.typeAssert (.iface 144 v) 36 201 true).run Tryd.prog w = .ok (.tuple #[.nilIface, .bool false]) w := run_typeAssert_lacksB Tryd.underlying201 (by kernel_rfl) (by kernel_rfl) v _ w
theorem assertAsAf (v : Value) (w : World) : (Instr.typeAssert (.iface 160 v) 36 224 true).run Tryd.prog w = .ok (.tuple #[.nilIface, .bool false]) w := run_typeAssert_lacksB Tryd.underlying224 (by kernel_rfl) (by kernel_rfl) v _ w
theorem assertIsAf (v : Value) (w : World) : (Instr.typeAssert (.iface 160 v) 36 197 true).run Tryd.prog w = .ok (.tuple #[.nilIface, .bool false]) w := run_typeAssert_lacksB Tryd.underlying197 (by kernel_rfl) (by kernel_rfl) v _ w
theorem assertUnAf (v : Value) (w : World) : (Instr.typeAssert (.iface 160 v) 36 200 true).run Tryd.prog w = .ok (.tuple #[.iface 160 v, .bool true]) w := run_typeAssert_hasB Tryd.underlying200 (by kernel_rfl) v _ w
theorem assertUsAf (v : Value) (w : World) : (Instr.typeAssert (.iface 160 v) 36 201 true).run Tryd.prog w = .ok (.tuple #[.nilIface, .bool false]) w := run_typeAssert_lacksB Tryd.underlying201 (by kernel_rfl) (by kernel_rfl) v _ w
theorem assertAsNf (v : Value) (w : World) : (Instr.typeAssert (.iface 180 v) 36 224 true).run Tryd.prog w = .ok (.tuple #[.nilIface, .bool false]) w := run_typeAssert_lacksB Tryd.underlying224 (by kernel_rfl) (by kernel_rfl) v _ w
theorem assertIsNf (v : Value) (w : World) : (Instr.typeAssert (.iface 180 v) 36 197 true).run Tryd.prog w = .ok (.tuple #[.nilIface, .bool false]) w := run_typeAssert_lacksB Tryd.underlying197 (by kernel_rfl) (by kernel_rfl) v _ w
theorem assertUnNf (v : Value) (w : World) : (Instr.typeAssert (.iface 180 v) 36 200 true).run Tryd.prog w = .ok (.tuple #[.iface 180 v, .bool true]) w := run_typeAssert_hasB Tryd.underlying200 (by kernel_rfl) v _ w
theorem assertUsNf (v : Value) (w : World) : (Instr.typeAssert (.iface 180 v) 36 201 true).run Tryd.prog w = .ok (.tuple #[.nilIface, .bool false]) w := run_typeAssert_lacksB Tryd.underlying201 (by kernel_rfl) (by kernel_rfl) v _ w
theorem methodUnwrapWf (v : Value) (w : World) : (Go.method 361 133 v "Unwrap").run Tryd.prog w = .ok (147, v) w := by kernel_rfl
theorem methodUnwrapCf (v : Value) (w : World) : (Go.method 361 144 v "Unwrap").run Tryd.prog w = .ok (149, v) w := by kernel_rfl
theorem methodUnwrapAf (v : Value) (w : World) : (Go.method 361 160 v "Unwrap").run Tryd.prog w = .ok (151, v) w := by kernel_rfl
theorem methodUnwrapNf (v : Value) (w : World) : (Go.method 361 180 v "Unwrap").run Tryd.prog w = .ok (153, v) w := by kernel_rfl
theorem valueOfErrno (n : Int) (w : World) : (ReflectliteValue.unpack (.iface 53 (.int .i64 n))).run Tryd.prog w
    = .ok (.agg #[.pointer (some ⟨1, 53, none⟩), .pointer (some ⟨w.heap.size, 0, none⟩), .int .u64 130]) (w.alloc (.cells #[.int .i64 n] 53)) := by kernel_rfl
theorem valueOfWf (n m : Int) (w : World) : (ReflectliteValue.unpack (.iface 133 (.agg #[.int .i64 n, .int .i64 m]))).run Tryd.prog w
    = .ok (.agg #[.pointer (some ⟨1, 133, none⟩), .pointer (some ⟨w.heap.size, 0, none⟩), .int .u64 153]) (w.alloc (.cells #[.int .i64 n, .int .i64 m] 133)) := by kernel_rfl
theorem setErrno (ta b : Addr) (n : Int) (old : Value) (W : World) (hb : W.cell? b = some (.int .i64 n)) (ht : W.cell? ta = some old) (hf : W.frozen? ta = false) :
    (ReflectliteValue.set #[.agg #[.pointer (some ⟨1, 53, none⟩), .pointer (some ta), .int .u64 386], .agg #[.pointer (some ⟨1, 53, none⟩), .pointer (some b), .int .u64 130]]).run Tryd.prog W
      = .ok (.tuple #[]) (W.setCell ta (.int .i64 n)) := by
  delta ReflectliteValue.set
  rw [rls]
  simp only [Sem.run_bind, partsAErrno, partsBErrno, Result.andThen]
  simp [ReflectliteValue.flagAddr, loadVar, isAgg, underlying, Tryd.underlying53, hb, Result.andThen, directErrno, storeVar, Value.cells, storeCells, Addr.add]
  rw [run_store Tryd.prog W ta _ _ (by rfl)]
  simp [ht, hf]
end Go.Proofs.YtchlceolccfdhaaDoor