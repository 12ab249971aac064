/- errors.As at the targets *api.Errno and *wire.fault: closed facts on the model's entries for internal/reflectlite, and three small laws on those that read or write memory. -/
import Derived.Test.YtmnoahglajilhaaDoorProg
import Derived.Test.YtmnoahglajilhaaDoorBase
import Derived.LaidEql
import Derived.Stop.Asserts
import Derived.RowKitTokens
namespace Go.Proofs.YtmnoahglajilhaaDoor
open Go.RowKit Go.Extern.Stop Go.Stop Go.Extern Agio

theorem rlm (z : Sem Value) (f : TypeId → Addr → Nat → Nat → Sem Value) (v : Value) :
    ReflectliteValue.method z f #[v] = (do match ← ReflectliteValue.parts v with | none => z | some (t, a, fl) => f t a fl (fl % 32)) := rfl
theorem rls {M : Array Value → Sort _} (v x : Value) (h : ∀ v x, M #[v, x]) (k : ∀ x, M x) : ReflectliteValue.set.match_3 M #[v, x] h k = h v x := rfl
theorem methodKind (h : Value) (w : World) : (Go.method 332 184 (.agg #[h]) "Kind").run Tryd.prog w = .ok (120, h) w := by kernel_rfl
theorem methodElem (h : Value) (w : World) : (Go.method 332 184 (.agg #[h]) "Elem").run Tryd.prog w = .ok (138, .agg #[h]) w := by kernel_rfl
theorem methodImplements (h : Value) (w : World) : (Go.method 332 184 (.agg #[h]) "Implements").run Tryd.prog w = .ok (139, .agg #[h]) w := by kernel_rfl
theorem methodAssignableTo (h : Value) (w : World) : (Go.method 332 184 (.agg #[h]) "AssignableTo").run Tryd.prog w = .ok (136, .agg #[h]) w := by kernel_rfl

/-! ### Errno -/
theorem valueOfPErrno (t : Addr) (w : World) : (ReflectliteValue.unpack (.iface 91 (.pointer (some t)))).run Tryd.prog w
    = .ok (.agg #[.pointer (some ⟨1, 91, none⟩), .pointer (some ⟨w.heap.size, 0, none⟩), .int .u64 150]) (w.alloc (.cells #[.pointer (some t)] 91)) := by kernel_rfl
theorem typePErrno (a : Addr) (w : World) : (ReflectliteValue.methodAny (ReflectliteValue.valueError "reflectlite.Value.Type" 0) (fun t _ _ _ => ReflectliteType.toType t) #[.agg #[.pointer (some ⟨1, 91, none⟩), .pointer (some a), .int .u64 150]]).run Tryd.prog w
    = .ok (.iface 184 (.agg #[.pointer (some ⟨1, 91, none⟩)])) w := by kernel_rfl
theorem kindPErrno (w : World) : ((ReflectliteType.abiMethod fun t => Functor.map (fun a : Nat => Value.int IntKind.u8 (a : Int)) (Rtype.kind t)) #[.pointer (some ⟨1, 91, none⟩)]).run Tryd.prog w = .ok (.int .u8 22) w := by kernel_rfl
theorem kindErrno (w : World) : ((ReflectliteType.abiMethod fun t => Functor.map (fun a : Nat => Value.int IntKind.u8 (a : Int)) (Rtype.kind t)) #[.pointer (some ⟨1, 36, none⟩)]).run Tryd.prog w = .ok (.int .u8 2) w := by kernel_rfl
theorem partsPErrno (a : Addr) (w : World) : (ReflectliteValue.parts (.agg #[.pointer (some ⟨1, 91, none⟩), .pointer (some a), .int .u64 150])).run Tryd.prog w = .ok (some (91, a, 150)) w := by kernel_rfl
theorem isNilPErrno (a p : Addr) (W : World) (ha : W.cell? a = some (.pointer (some p))) :
    (ReflectliteValue.method (ReflectliteValue.valueError "reflectlite.Value.IsNil" 0) ReflectliteValue.isNil #[.agg #[.pointer (some ⟨1, 91, none⟩), .pointer (some a), .int .u64 150]]).run Tryd.prog W = .ok (.bool false) W := by
  rw [rlm]
  simp only [Sem.run_bind, partsPErrno, Result.andThen]
  simp [ReflectliteValue.isNil, loadVar, isAgg, underlying, Tryd.underlying91, ha, Result.andThen]
theorem elemPErrno (w : World) : (ReflectliteType.method ReflectliteType.elem #[.agg #[.pointer (some ⟨1, 91, none⟩)]]).run Tryd.prog w = .ok (.iface 184 (.agg #[.pointer (some ⟨1, 36, none⟩)])) w := by kernel_rfl
theorem implementsErrno (w : World) : (ReflectliteType.relation "Implements" ReflectliteType.implements_ #[.agg #[.pointer (some ⟨1, 36, none⟩)], .iface 184 (.agg #[.pointer (some ⟨1, 27, none⟩)])]).run Tryd.prog w = .ok (.bool true) w := by kernel_rfl
theorem typeOfErrno (v : Value) (w : World) : (ReflectliteType.typeOf #[.iface 36 v]).run Tryd.prog w = .ok (.iface 184 (.agg #[.pointer (some ⟨1, 36, none⟩)])) w := by kernel_rfl
theorem assignableErrno (w : World) : (ReflectliteType.relation "AssignableTo" ReflectliteType.assignableTo #[.agg #[.pointer (some ⟨1, 36, none⟩)], .iface 184 (.agg #[.pointer (some ⟨1, 36, none⟩)])]).run Tryd.prog w = .ok (.bool true) w := by kernel_rfl
theorem elemOfPErrno (w : World) : (Rtype.elem? 91).run Tryd.prog w = .ok (some 36) w := by kernel_rfl
theorem mkErrno (p : Addr) (w : World) : (ReflectliteValue.mk 36 p ReflectliteValue.flagAddr).run Tryd.prog w = .ok (.agg #[.pointer (some ⟨1, 36, none⟩), .pointer (some p), .int .u64 386]) w := by kernel_rfl
theorem elemVErrno (a p : Addr) (W : World) (ha : W.cell? a = some (.pointer (some p))) :
    (ReflectliteValue.method (ReflectliteValue.valueError "reflectlite.Value.Elem" 0) ReflectliteValue.elem #[.agg #[.pointer (some ⟨1, 91, none⟩), .pointer (some a), .int .u64 150]]).run Tryd.prog W
      = .ok (.agg #[.pointer (some ⟨1, 36, none⟩), .pointer (some p), .int .u64 386]) W := by
  rw [rlm]
  simp only [Sem.run_bind, partsPErrno, Result.andThen]
  simp [ReflectliteValue.elem, loadVar, isAgg, underlying, Tryd.underlying91, ha, Result.andThen, elemOfPErrno, mkErrno]
theorem partsAErrno (a : Addr) (w : World) : (ReflectliteValue.parts (.agg #[.pointer (some ⟨1, 36, none⟩), .pointer (some a), .int .u64 386])).run Tryd.prog w = .ok (some (36, a, 386)) w := by kernel_rfl
theorem partsBErrno (a : Addr) (w : World) : (ReflectliteValue.parts (.agg #[.pointer (some ⟨1, 36, none⟩), .pointer (some a), .int .u64 130])).run Tryd.prog w = .ok (some (36, a, 130)) w := by kernel_rfl
theorem directErrno (w : World) : (Rtype.directlyAssignable 36 36).run Tryd.prog w = .ok true w := by kernel_rfl

/-! ### Wf -/
theorem valueOfPWf (t : Addr) (w : World) : (ReflectliteValue.unpack (.iface 139 (.pointer (some t)))).run Tryd.prog w
    = .ok (.agg #[.pointer (some ⟨1, 139, none⟩), .pointer (some ⟨w.heap.size, 0, none⟩), .int .u64 150]) (w.alloc (.cells #[.pointer (some t)] 139)) := by kernel_rfl
theorem typePWf (a : Addr) (w : World) : (ReflectliteValue.methodAny (ReflectliteValue.valueError "reflectlite.Value.Type" 0) (fun t _ _ _ => ReflectliteType.toType t) #[.agg #[.pointer (some ⟨1, 139, none⟩), .pointer (some a), .int .u64 150]]).run Tryd.prog w
    = .ok (.iface 184 (.agg #[.pointer (some ⟨1, 139, none⟩)])) w := by kernel_rfl
theorem kindPWf (w : World) : ((ReflectliteType.abiMethod fun t => Functor.map (fun a : Nat => Value.int IntKind.u8 (a : Int)) (Rtype.kind t)) #[.pointer (some ⟨1, 139, none⟩)]).run Tryd.prog w = .ok (.int .u8 22) w := by kernel_rfl
theorem kindWf (w : World) : ((ReflectliteType.abiMethod fun t => Functor.map (fun a : Nat => Value.int IntKind.u8 (a : Int)) (Rtype.kind t)) #[.pointer (some ⟨1, 138, none⟩)]).run Tryd.prog w = .ok (.int .u8 25) w := by kernel_rfl
theorem partsPWf (a : Addr) (w : World) : (ReflectliteValue.parts (.agg #[.pointer (some ⟨1, 139, none⟩), .pointer (some a), .int .u64 150])).run Tryd.prog w = .ok (some (139, a, 150)) w := by kernel_rfl
theorem isNilPWf (a p : Addr) (W : World) (ha : W.cell? a = some (.pointer (some p))) :
    (ReflectliteValue.method (ReflectliteValue.valueError "reflectlite.Value.IsNil" 0) ReflectliteValue.isNil #[.agg #[.pointer (some ⟨1, 139, none⟩), .pointer (some a), .int .u64 150]]).run Tryd.prog W = .ok (.bool false) W := by
  rw [rlm]
  simp only [Sem.run_bind, partsPWf, Result.andThen]
  simp [ReflectliteValue.isNil, loadVar, isAgg, underlying, Tryd.underlying139, ha, Result.andThen]
theorem elemPWf (w : World) : (ReflectliteType.method ReflectliteType.elem #[.agg #[.pointer (some ⟨1, 139, none⟩)]]).run Tryd.prog w = .ok (.iface 184 (.agg #[.pointer (some ⟨1, 138, none⟩)])) w := by kernel_rfl
theorem implementsWf (w : World) : (ReflectliteType.relation "Implements" ReflectliteType.implements_ #[.agg #[.pointer (some ⟨1, 138, none⟩)], .iface 184 (.agg #[.pointer (some ⟨1, 27, none⟩)])]).run Tryd.prog w = .ok (.bool true) w := by kernel_rfl
theorem typeOfWf (v : Value) (w : World) : (ReflectliteType.typeOf #[.iface 138 v]).run Tryd.prog w = .ok (.iface 184 (.agg #[.pointer (some ⟨1, 138, none⟩)])) w := by kernel_rfl
theorem assignableWf (w : World) : (ReflectliteType.relation "AssignableTo" ReflectliteType.assignableTo #[.agg #[.pointer (some ⟨1, 138, none⟩)], .iface 184 (.agg #[.pointer (some ⟨1, 138, none⟩)])]).run Tryd.prog w = .ok (.bool true) w := by kernel_rfl
theorem elemOfPWf (w : World) : (Rtype.elem? 139).run Tryd.prog w = .ok (some 138) w := by kernel_rfl
theorem mkWf (p : Addr) (w : World) : (ReflectliteValue.mk 138 p ReflectliteValue.flagAddr).run Tryd.prog w = .ok (.agg #[.pointer (some ⟨1, 138, none⟩), .pointer (some p), .int .u64 409]) w := by kernel_rfl
theorem elemVWf (a p : Addr) (W : World) (ha : W.cell? a = some (.pointer (some p))) :
    (ReflectliteValue.method (ReflectliteValue.valueError "reflectlite.Value.Elem" 0) ReflectliteValue.elem #[.agg #[.pointer (some ⟨1, 139, none⟩), .pointer (some a), .int .u64 150]]).run Tryd.prog W
      = .ok (.agg #[.pointer (some ⟨1, 138, none⟩), .pointer (some p), .int .u64 409]) W := by
  rw [rlm]
  simp only [Sem.run_bind, partsPWf, Result.andThen]
  simp [ReflectliteValue.elem, loadVar, isAgg, underlying, Tryd.underlying139, ha, Result.andThen, elemOfPWf, mkWf]
theorem partsAWf (a : Addr) (w : World) : (ReflectliteValue.parts (.agg #[.pointer (some ⟨1, 138, none⟩), .pointer (some a), .int .u64 409])).run Tryd.prog w = .ok (some (138, a, 409)) w := by kernel_rfl
theorem partsBWf (a : Addr) (w : World) : (ReflectliteValue.parts (.agg #[.pointer (some ⟨1, 138, none⟩), .pointer (some a), .int .u64 153])).run Tryd.prog w = .ok (some (138, a, 153)) w := by kernel_rfl
theorem directWf (w : World) : (Rtype.directlyAssignable 138 138).run Tryd.prog w = .ok true w := by kernel_rfl

theorem typeOfCf (v : Value) (w : World) : (ReflectliteType.typeOf #[.iface 67 v]).run Tryd.prog w = .ok (.iface 184 (.agg #[.pointer (some ⟨1, 67, none⟩)])) w := by kernel_rfl
theorem typeOfAf (v : Value) (w : World) : (ReflectliteType.typeOf #[.iface 104 v]).run Tryd.prog w = .ok (.iface 184 (.agg #[.pointer (some ⟨1, 104, none⟩)])) w := by kernel_rfl
theorem typeOfNf (v : Value) (w : World) : (ReflectliteType.typeOf #[.iface 127 v]).run Tryd.prog w = .ok (.iface 184 (.agg #[.pointer (some ⟨1, 127, none⟩)])) w := by kernel_rfl
theorem assignWfErrno (w : World) : (ReflectliteType.relation "AssignableTo" ReflectliteType.assignableTo #[.agg #[.pointer (some ⟨1, 138, none⟩)], .iface 184 (.agg #[.pointer (some ⟨1, 36, none⟩)])]).run Tryd.prog w = .ok (.bool false) w := by kernel_rfl
theorem assignCfErrno (w : World) : (ReflectliteType.relation "AssignableTo" ReflectliteType.assignableTo #[.agg #[.pointer (some ⟨1, 67, none⟩)], .iface 184 (.agg #[.pointer (some ⟨1, 36, none⟩)])]).run Tryd.prog w = .ok (.bool false) w := by kernel_rfl
theorem assignAfErrno (w : World) : (ReflectliteType.relation "AssignableTo" ReflectliteType.assignableTo #[.agg #[.pointer (some ⟨1, 104, none⟩)], .iface 184 (.agg #[.pointer (some ⟨1, 36, none⟩)])]).run Tryd.prog w = .ok (.bool false) w := by kernel_rfl
theorem assignNfErrno (w : World) : (ReflectliteType.relation "AssignableTo" ReflectliteType.assignableTo #[.agg #[.pointer (some ⟨1, 127, none⟩)], .iface 184 (.agg #[.pointer (some ⟨1, 36, none⟩)])]).run Tryd.prog w = .ok (.bool false) w := by kernel_rfl
theorem assignErrnoWf (w : World) : (ReflectliteType.relation "AssignableTo" ReflectliteType.assignableTo #[.agg #[.pointer (some ⟨1, 36, none⟩)], .iface 184 (.agg #[.pointer (some ⟨1, 138, none⟩)])]).run Tryd.prog w = .ok (.bool false) w := by kernel_rfl
theorem assignCfWf (w : World) : (ReflectliteType.relation "AssignableTo" ReflectliteType.assignableTo #[.agg #[.pointer (some ⟨1, 67, none⟩)], .iface 184 (.agg #[.pointer (some ⟨1, 138, none⟩)])]).run Tryd.prog w = .ok (.bool false) w := by kernel_rfl
theorem assignAfWf (w : World) : (ReflectliteType.relation "AssignableTo" ReflectliteType.assignableTo #[.agg #[.pointer (some ⟨1, 104, none⟩)], .iface 184 (.agg #[.pointer (some ⟨1, 138, none⟩)])]).run Tryd.prog w = .ok (.bool false) w := by kernel_rfl
theorem assignNfWf (w : World) : (ReflectliteType.relation "AssignableTo" ReflectliteType.assignableTo #[.agg #[.pointer (some ⟨1, 127, none⟩)], .iface 184 (.agg #[.pointer (some ⟨1, 138, none⟩)])]).run Tryd.prog w = .ok (.bool false) w := by kernel_rfl
theorem assertAsErrno (v : Value) (w : World) : (Instr.typeAssert (.iface 36 v) 27 189 true).run Tryd.prog w = .ok (.tuple #[.nilIface, .bool false]) w := run_typeAssert_lacksB Tryd.underlying189 (by kernel_rfl) (by kernel_rfl) v _ w
theorem assertUnErrno (v : Value) (w : World) : (Instr.typeAssert (.iface 36 v) 27 192 true).run Tryd.prog w = .ok (.tuple #[.nilIface, .bool false]) w := run_typeAssert_lacksB Tryd.underlying192 (by kernel_rfl) (by kernel_rfl) v _ w
theorem assertUsErrno (v : Value) (w : World) : (Instr.typeAssert (.iface 36 v) 27 193 true).run Tryd.prog w = .ok (.tuple #[.nilIface, .bool false]) w := run_typeAssert_lacksB Tryd.underlying193 (by kernel_rfl) (by kernel_rfl) v _ w
theorem assertAsWf (v : Value) (w : World) : (Instr.typeAssert (.iface 138 v) 27 189 true).run Tryd.prog w = .ok (.tuple #[.nilIface, .bool false]) w := run_typeAssert_lacksB Tryd.underlying189 (by kernel_rfl) (by kernel_rfl) v _ w
theorem assertUnWf (v : Value) (w : World) : (Instr.typeAssert (.iface 138 v) 27 192 true).run Tryd.prog w = .ok (.tuple #[.iface 138 v, .bool true]) w := run_typeAssert_hasB Tryd.underlying192 (by kernel_rfl) v _ w
theorem assertUsWf (v : Value) (w : World) : (Instr.typeAssert (.iface 138 v) 27 193 true).run Tryd.prog w = .ok (.tuple #[.nilIface, .bool false]) w := run_typeAssert_lacksB Tryd.underlying193 (by kernel_rfl) (by kernel_rfl) v _ w
theorem assertAsCf (v : Value) (w : World) : (Instr.typeAssert (.iface 67 v) 27 189 true).run Tryd.prog w = .ok (.tuple #[.nilIface, .bool false]) w := run_typeAssert_lacksB Tryd.underlying189 (by kernel_rfl) (by kernel_rfl) v _ w
theorem assertUnCf (v : Value) (w : World) : (Instr.typeAssert (.iface 67 v) 27 192 true).run Tryd.prog w = .ok (.tuple #[.iface 67 v, .bool true]) w := run_typeAssert_hasB Tryd.underlying192 (by kernel_rfl) v _ w
theorem assertUsCf (v : Value) (w : World) : (Instr.typeAssert (.iface 67 v) 27 193 true).run Tryd.prog w = .ok (.tuple #[.nilIface, .bool false]) w := run_typeAssert_lacksB Tryd.underlying193 (by kernel_rfl) (by kernel_rfl) v _ w
theorem assertAsAf (v : Value) (w : World) : (Instr.typeAssert (.iface 104 v) 27 189 true).run Tryd.prog w = .ok (.tuple #[.nilIface, .bool false]) w := run_typeAssert_lacksB Tryd.underlying189 (by kernel_rfl) (by kernel_rfl) v _ w
theorem assertUnAf (v : Value) (w : World) : (Instr.typeAssert (.iface 104 v) 27 192 true).run Tryd.prog w = .ok (.tuple #[.iface 104 v, .bool true]) w := run_typeAssert_hasB Tryd.underlying192 (by kernel_rfl) v _ w
theorem assertUsAf (v : Value) (w : World) : (Instr.typeAssert (.iface 104 v) 27 193 true).run Tryd.prog w = .ok (.tuple #[.nilIface, .bool false]) w := run_typeAssert_lacksB Tryd.underlying193 (by kernel_rfl) (by kernel_rfl) v _ w
theorem assertAsNf (v : Value) (w : World) : (Instr.typeAssert (.iface 127 v) 27 189 true).run Tryd.prog w = .ok (.tuple #[.nilIface, .bool false]) w := run_typeAssert_lacksB Tryd.underlying189 (by kernel_rfl) (by kernel_rfl) v _ w
theorem assertUnNf (v : Value) (w : World) : (Instr.typeAssert (.iface 127 v) 27 192 true).run Tryd.prog w = .ok (.tuple #[.iface 127 v, .bool true]) w := run_typeAssert_hasB Tryd.underlying192 (by kernel_rfl) v _ w
theorem assertUsNf (v : Value) (w : World) : (Instr.typeAssert (.iface 127 v) 27 193 true).run Tryd.prog w = .ok (.tuple #[.nilIface, .bool false]) w := run_typeAssert_lacksB Tryd.underlying193 (by kernel_rfl) (by kernel_rfl) v _ w
theorem methodUnwrapWf (v : Value) (w : World) : (Go.method 332 138 v "Unwrap").run Tryd.prog w = .ok (131, v) w := by kernel_rfl
theorem methodUnwrapCf (v : Value) (w : World) : (Go.method 332 67 v "Unwrap").run Tryd.prog w = .ok (125, v) w := by kernel_rfl
theorem methodUnwrapAf (v : Value) (w : World) : (Go.method 332 104 v "Unwrap").run Tryd.prog w = .ok (127, v) w := by kernel_rfl
theorem methodUnwrapNf (v : Value) (w : World) : (Go.method 332 127 v "Unwrap").run Tryd.prog w = .ok (129, v) w := by kernel_rfl
theorem valueOfErrno (n : Int) (w : World) : (ReflectliteValue.unpack (.iface 36 (.int .i64 n))).run Tryd.prog w
    = .ok (.agg #[.pointer (some ⟨1, 36, none⟩), .pointer (some ⟨w.heap.size, 0, none⟩), .int .u64 130]) (w.alloc (.cells #[.int .i64 n] 36)) := by kernel_rfl
theorem valueOfWf (n m : Int) (w : World) : (ReflectliteValue.unpack (.iface 138 (.agg #[.int .i64 n, .int .i64 m]))).run Tryd.prog w
    = .ok (.agg #[.pointer (some ⟨1, 138, none⟩), .pointer (some ⟨w.heap.size, 0, none⟩), .int .u64 153]) (w.alloc (.cells #[.int .i64 n, .int .i64 m] 138)) := by kernel_rfl
theorem setErrno (ta b : Addr) (n : Int) (old : Value) (W : World) (hb : W.cell? b = some (.int .i64 n)) (ht : W.cell? ta = some old) (hf : W.frozen? ta = false) :
    (ReflectliteValue.set #[.agg #[.pointer (some ⟨1, 36, none⟩), .pointer (some ta), .int .u64 386], .agg #[.pointer (some ⟨1, 36, none⟩), .pointer (some b), .int .u64 130]]).run Tryd.prog W
      = .ok (.tuple #[]) (W.setCell ta (.int .i64 n)) := by
  delta ReflectliteValue.set
  rw [rls]
  simp only [Sem.run_bind, partsAErrno, partsBErrno, Result.andThen]
  simp [ReflectliteValue.flagAddr, loadVar, isAgg, underlying, Tryd.underlying36, hb, Result.andThen, directErrno, storeVar, Value.cells, storeCells, Addr.add]
  rw [run_store Tryd.prog W ta _ _ (by rfl)]
  simp [ht, hf]
end Go.Proofs.YtmnoahglajilhaaDoor