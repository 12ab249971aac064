/- errors.As at the target *api.Errno; wire.Code. -/
import Derived.Test.YtchlceolccfdhaaDoorErrs2
namespace Go.Proofs.YtchlceolccfdhaaDoor
open Go.RowKit Go.Extern.Stop Go.Stop Go.Extern Agio

/-- The package-level variable errors.errorType is laid. -/
def GoodG (w : World) : Prop := w.cell? ⟨0, 0, none⟩ = some (.iface 195 (.agg #[.pointer (some ⟨1, 36, none⟩)]))
theorem GoodG.pos {w : World} (h : GoodG w) : 0 < w.heap.size := World.block_lt_of_cell? w _ h
theorem GoodG.upd {w w' : World} {a b : List Nat} (h : GoodG w) (hu : Upd a b w w') (ha : 0 ∉ a) : GoodG w' := hu.cell h ha
theorem GoodG.alloc {w : World} (h : GoodG w) (o : Obj) : GoodG (w.alloc o) := (World.cell?_alloc_lt w o _ h.pos).trans h
theorem GoodG.ne {w : World} (h : GoodG w) {g : Nat} {n : Int} (hb : Blk w g 53 #[.int .i64 n]) : g ≠ 0 := by
  rintro rfl
  have := hb.cell 0
  unfold GoodG at h
  rw [h] at this
  simp at this

set_option maxRecDepth 100000 in
set_option maxHeartbeats 4000000 in
theorem errorsAsErrno (e0 : Er) (g : Nat) (old : Int) (w : World) (hG : GoodG w) (hb : Blk w g 53 #[.int .i64 old]) :
    Calls Tryd.prog 64 #[e0.val, .iface 120 (.pointer (some ⟨g, 0, none⟩))] w
      fun ev w' => ev = .returned (.bool true) ∧ Blk w' g 53 #[.int .i64 e0.code] ∧ Upd [g] [g] w w' := by
  have h6 := @run_callFunc_extern Tryd.prog 99 _ (fun args => ReflectliteValue.unpack (args.getD 0 (.tuple #[]))) Tryd.func99 (by kernel_rfl) (by kernel_rfl) (by kernel_rfl) (by kernel_rfl)
  have h7 := @run_callFunc_extern Tryd.prog 100 _ (ReflectliteValue.methodAny (ReflectliteValue.valueError "reflectlite.Value.Type" 0) (fun t _ _ _ => ReflectliteType.toType t)) Tryd.func100 (by kernel_rfl) (by kernel_rfl) (by kernel_rfl) (by kernel_rfl)
  have h8 := @run_callFunc_extern Tryd.prog 101 _ (ReflectliteValue.method (ReflectliteValue.valueError "reflectlite.Value.IsNil" 0) ReflectliteValue.isNil) Tryd.func101 (by kernel_rfl) (by kernel_rfl) (by kernel_rfl) (by kernel_rfl)
  have h27 := @run_callFunc_extern Tryd.prog 139 _ (ReflectliteType.abiMethod fun t => do pure (.int .u8 (← Rtype.kind t))) Tryd.func139 (by kernel_rfl) (by kernel_rfl) (by kernel_rfl) (by kernel_rfl)
  have h37 := @run_callFunc_extern Tryd.prog 160 _ (ReflectliteType.method ReflectliteType.elem) Tryd.func160 (by kernel_rfl) (by kernel_rfl) (by kernel_rfl) (by kernel_rfl)
  have h38 := @run_callFunc_extern Tryd.prog 161 _ (ReflectliteType.relation "Implements" ReflectliteType.implements_) Tryd.func161 (by kernel_rfl) (by kernel_rfl) (by kernel_rfl) (by kernel_rfl)
  have f6 := valueOfPErrno
  have f7 := typePErrno
  have mK := methodKind
  have mE := methodElem
  have mI := methodImplements
  have k27 := kindPErrno
  have k25 := kindErrno
  have e27 := elemPErrno
  have i25 := implementsErrno
  have n8 := isNilPErrno ⟨w.heap.size, 0, none⟩ ⟨g, 0, none⟩ ((w.alloc (.cells #[.pointer (some ⟨g, 0, none⟩)] 120)).alloc (.cells #[.pointer (some ⟨1, 120, none⟩), .pointer (some ⟨w.heap.size, 0, none⟩), .int .u64 150] 187)) (by simp)
  have hg2 : ((w.alloc (.cells #[.pointer (some ⟨g, 0, none⟩)] 120)).alloc (.cells #[.pointer (some ⟨1, 120, none⟩), .pointer (some ⟨w.heap.size, 0, none⟩), .int .u64 150] 187)).cell? ⟨0, 0, none⟩ = some (.iface 195 (.agg #[.pointer (some ⟨1, 36, none⟩)])) := (hG.alloc _).alloc _
  obtain ⟨t, x, hx⟩ := e0.iface
  have C := as_code e0 g ⟨w.heap.size, 0, none⟩ (.int .i64 old) ((w.alloc (.cells #[.pointer (some ⟨g, 0, none⟩)] 120)).alloc (.cells #[.pointer (some ⟨1, 120, none⟩), .pointer (some ⟨w.heap.size, 0, none⟩), .int .u64 150] 187)) ((hb.alloc _).alloc _) (by simp)
  rw [hx] at C ⊢
  clear hx
  go_enter Tryd.func64, Tryd.ntmps64
  repeat' ((fail_if_success (refine stop_append rfl ?_)); (fail_if_success (refine stop_copy rfl ?_)); first | go_values | go_skip | go_guarded | go_step | go_upon | (simp only []; go_at_K))
  refine C.mono ?_
  rintro ev w1 ⟨rfl, hb1, hu1⟩
  repeat' ((fail_if_success (refine stop_append rfl ?_)); (fail_if_success (refine stop_copy rfl ?_)); first | go_values | go_skip | go_guarded | go_step | go_upon | (simp only []; go_at_K))
  go_ret
  exact ⟨rfl, hb1, (((Upd.refl _ _).alloc _).alloc _).trans hu1⟩

end Go.Proofs.YtchlceolccfdhaaDoor
