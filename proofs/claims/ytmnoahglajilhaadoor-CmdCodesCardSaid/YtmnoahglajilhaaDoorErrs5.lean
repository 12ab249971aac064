/- errors.as and errors.As at the target *wire.fault; wire.At. -/
import Derived.Test.YtmnoahglajilhaaDoorErrs4
namespace Go.Proofs.YtmnoahglajilhaaDoor
open Go.RowKit Go.Extern.Stop Go.Stop Go.Extern Agio

/-- The place of the first reader's error that it wraps. -/
def Er.at_ : Er → Option Int
  | .no _ => none | .wf _ m => some m | .cf e => e.at_ | .af _ => none | .nf _ => none

theorem setWf (g b : Nat) (n m : Int) (x y : Value) (W : World) (hb0 : W.cell? ⟨b, 0, none⟩ = some (.int .i64 n)) (hb1 : W.cell? ⟨b, 1, none⟩ = some (.int .i64 m)) (hg : Blk W g 138 #[x, y]) :
    (ReflectliteValue.set #[.agg #[.pointer (some ⟨1, 138, none⟩), .pointer (some ⟨g, 0, none⟩), .int .u64 409], .agg #[.pointer (some ⟨1, 138, none⟩), .pointer (some ⟨b, 0, none⟩), .int .u64 153]]).run Tryd.prog W
      = .ok (.tuple #[]) ((W.setCell ⟨g, 0, none⟩ (.int .i64 n)).setCell ⟨g, 1, none⟩ (.int .i64 m)) := by
  have h0 := hg.cell 0
  have h1 := hg.cell 1
  have f0 := hg.frozen 0
  have f1 := hg.frozen 1
  simp at h0 h1
  delta ReflectliteValue.set
  rw [rls]
  simp only [Sem.run_bind, partsAWf, partsBWf, Result.andThen]
  simp [ReflectliteValue.flagAddr, loadVar, isAgg, underlying, Tryd.underlying138, hb0, hb1, Result.andThen, directWf, storeVar, Value.cells, storeCells, Addr.add, go_sem, h0, h1, f0, f1]

set_option maxRecDepth 100000 in
set_option maxHeartbeats 4000000 in
theorem as_at (e0 : Er) (g : Nat) (a : Addr) (x y : Value) (w : World) (hb : Blk w g 138 #[x, y]) (ha : w.cell? a = some (.pointer (some ⟨g, 0, none⟩))) :
    Calls Tryd.prog 77 #[e0.val, .iface 139 (.pointer (some ⟨g, 0, none⟩)), .agg #[.pointer (some ⟨1, 139, none⟩), .pointer (some a), .int .u64 150], .iface 184 (.agg #[.pointer (some ⟨1, 138, none⟩)])] w
      fun ev w' => ev = .returned (.bool e0.at_.isSome) ∧ (∀ m, e0.at_ = some m → ∃ n, Blk w' g 138 #[.int .i64 n, .int .i64 m]) ∧ (e0.at_ = none → Blk w' g 138 #[x, y]) ∧ Upd [g] [g] w w' := by
  have h10 := @run_callFunc_extern Tryd.prog 95 _ ReflectliteType.typeOf Tryd.func95 (by kernel_rfl) (by kernel_rfl) (by kernel_rfl) (by kernel_rfl)
  have h35 := @run_callFunc_extern Tryd.prog 136 _ (ReflectliteType.relation "AssignableTo" ReflectliteType.assignableTo) Tryd.func136 (by kernel_rfl) (by kernel_rfl) (by kernel_rfl) (by kernel_rfl)
  have h49 := @run_callFunc_extern Tryd.prog 96 _ (ReflectliteValue.method (ReflectliteValue.valueError "reflectlite.Value.Elem" 0) ReflectliteValue.elem) Tryd.func96 (by kernel_rfl) (by kernel_rfl) (by kernel_rfl) (by kernel_rfl)
  have h45 := @run_callFunc_extern Tryd.prog 74 _ (fun args => ReflectliteValue.unpack (args.getD 0 (.tuple #[]))) Tryd.func74 (by kernel_rfl) (by kernel_rfl) (by kernel_rfl) (by kernel_rfl)
  have h50 := @run_callFunc_extern Tryd.prog 97 _ ReflectliteValue.set Tryd.func97 (by kernel_rfl) (by kernel_rfl) (by kernel_rfl) (by kernel_rfl)
  have mA := methodAssignableTo
  go_enter Tryd.func77, Tryd.ntmps77
  repeat' ((fail_if_success (with_reducible refine stop_append rfl ?_)); (fail_if_success (with_reducible refine stop_copy rfl ?_)); first | go_values | go_skip | go_guarded | go_step | go_upon | (simp only []; go_at_K))
  go_loopw [0] (fun v wr => ∃ e : Er, erIn v e ∧ e.at_ = e0.at_ ∧ ∃ bx : Nat, bx = w.heap.size ∧ Blk wr bx 146 #[.pointer (some ⟨1, 139, none⟩), .pointer (some a), .int .u64 150] ∧ Blk wr g 138 #[x, y] ∧ wr.cell? a = some (.pointer (some ⟨g, 0, none⟩)) ∧ Upd [g] [g] w wr)
    (fun v _ => vdeep v)
  case atStart =>
    refine ⟨e0, rfl, rfl, _, rfl, Blk.new _ _ _, hb.alloc _, ?_, (Upd.refl _ _).alloc _⟩
    rw [World.cell?_alloc_lt _ _ _ (World.block_lt_of_cell? w a ha)]; exact ha
  case round =>
    obtain ⟨e, rfl, hcode, bx, rfl, hbx, hbg, hca, hu⟩ := hrel
    have HC := Lib.hid hcode; clear hcode
    have hx0 := hbx.cell 0
    have hx1 := hbx.cell 1
    have hx2 := hbx.cell 2
    simp at hx0 hx1 hx2
    cases e with
    | no n =>
      have tW := typeOfErrno (.int .i64 n)
      have aW := assignErrnoWf
      have iA := assertAsErrno
      have iU := assertUnErrno
      have iS := assertUsErrno
      have E0 : Hid (e0.at_ = none) := HC.out.symm
      simp only [Er.val]
      repeat' ((fail_if_success (with_reducible refine stop_append rfl ?_)); (fail_if_success (with_reducible refine stop_copy rfl ?_)); first | go_values | go_skip | go_guarded | go_step | go_upon | (simp only []; go_at_K))
      go_ret
      refine ⟨by rw [E0.out]; rfl, fun m h => ?_, fun _ => hbg, hu⟩
      rw [E0.out] at h; cases h
    | wf n m =>
      have tW := typeOfWf (.agg #[.int .i64 n, .int .i64 m])
      have aW := assignableWf
      have hv := valueOfWf n m
      have el := elemVWf a ⟨g, 0, none⟩ wr hca
      have hg2 : Blk (wr.alloc (.cells #[.int .i64 n, .int .i64 m] 138)) g 138 #[x, y] := hbg.alloc _
      have st := setWf g wr.heap.size n m x y (wr.alloc (.cells #[.int .i64 n, .int .i64 m] 138)) (by simp) (by simp) hg2
      have E0 : Hid (e0.at_ = some m) := HC.out.symm
      simp only [Er.val]
      repeat' ((fail_if_success (with_reducible refine stop_append rfl ?_)); (fail_if_success (with_reducible refine stop_copy rfl ?_)); first | go_values | go_skip | go_guarded | go_step | go_upon | (simp only []; go_at_K))
      go_ret
      refine ⟨by rw [E0.out]; rfl, fun m' h => ⟨n, ?_⟩, fun h => ?_, ((hu.alloc _).setCell (.inl (by simp)) _).setCell (.inl (by simp)) _⟩
      · rw [E0.out] at h; cases h
        simpa using (hg2.set_ 0 (.int .i64 n)).set_ 1 (.int .i64 m)
      · rw [E0.out] at h; cases h
    | cf e =>
      have tW := typeOfCf
      have aW := assignCfWf
      have iA := assertAsCf
      have iU := assertUnCf
      have mU := methodUnwrapCf
      obtain ⟨t, x', hx⟩ := e.iface
      simp only [Er.val, hx]
      have HX := Lib.hid hx; clear hx
      repeat' ((fail_if_success (with_reducible refine stop_append rfl ?_)); (fail_if_success (with_reducible refine stop_copy rfl ?_)); first | go_values | go_skip | go_guarded | go_step | go_upon | (simp only []; go_at_K))
      refine (unwrapCf t x' wr).mono ?_
      rintro ev w1 ⟨rfl, hu1⟩
      repeat' ((fail_if_success (with_reducible refine stop_append rfl ?_)); (fail_if_success (with_reducible refine stop_copy rfl ?_)); first | go_values | go_skip | go_guarded | go_step | go_upon | (simp only []; go_at_K))
      refine ⟨⟨e, HX.out.symm, HC.out, _, rfl, hbx.upd hu1 (by simp), hbg.upd hu1 (by simp), hu1.cell hca (by simp), hu.trans (hu1.mono (by simp) (by simp))⟩, ?_⟩
      rw [← HX.out]
      exact erLt e (Er.cf e) (by simp [Er.deep])
    | af n =>
      have tW := typeOfAf
      have aW := assignAfWf
      have iA := assertAsAf
      have iU := assertUnAf
      have mU := methodUnwrapAf
      simp only [Er.val]
      repeat' ((fail_if_success (with_reducible refine stop_append rfl ?_)); (fail_if_success (with_reducible refine stop_copy rfl ?_)); first | go_values | go_skip | go_guarded | go_step | go_upon | (simp only []; go_at_K))
      refine (unwrapAf n wr).mono ?_
      rintro ev w1 ⟨rfl, hu1⟩
      repeat' ((fail_if_success (with_reducible refine stop_append rfl ?_)); (fail_if_success (with_reducible refine stop_copy rfl ?_)); first | go_values | go_skip | go_guarded | go_step | go_upon | (simp only []; go_at_K))
      refine ⟨⟨(Er.no n), rfl, HC.out, _, rfl, hbx.upd hu1 (by simp), hbg.upd hu1 (by simp), hu1.cell hca (by simp), hu.trans (hu1.mono (by simp) (by simp))⟩, ?_⟩
      exact erLt (Er.no n) (Er.af n) (by simp [Er.deep])
    | nf n =>
      have tW := typeOfNf
      have aW := assignNfWf
      have iA := assertAsNf
      have iU := assertUnNf
      have mU := methodUnwrapNf
      simp only [Er.val]
      repeat' ((fail_if_success (with_reducible refine stop_append rfl ?_)); (fail_if_success (with_reducible refine stop_copy rfl ?_)); first | go_values | go_skip | go_guarded | go_step | go_upon | (simp only []; go_at_K))
      refine (unwrapNf n wr).mono ?_
      rintro ev w1 ⟨rfl, hu1⟩
      repeat' ((fail_if_success (with_reducible refine stop_append rfl ?_)); (fail_if_success (with_reducible refine stop_copy rfl ?_)); first | go_values | go_skip | go_guarded | go_step | go_upon | (simp only []; go_at_K))
      refine ⟨⟨(Er.no n), rfl, HC.out, _, rfl, hbx.upd hu1 (by simp), hbg.upd hu1 (by simp), hu1.cell hca (by simp), hu.trans (hu1.mono (by simp) (by simp))⟩, ?_⟩
      exact erLt (Er.no n) (Er.nf n) (by simp [Er.deep])

set_option maxRecDepth 100000 in
set_option maxHeartbeats 4000000 in
theorem errorsAsWf (e0 : Er) (g : Nat) (w : World) (hG : GoodG w) (hb : Blk w g 138 #[.int .i64 0, .int .i64 0]) :
    Calls Tryd.prog 41 #[e0.val, .iface 139 (.pointer (some ⟨g, 0, none⟩))] w
      fun ev w' => ev = .returned (.bool e0.at_.isSome) ∧ (∀ m, e0.at_ = some m → ∃ n, Blk w' g 138 #[.int .i64 n, .int .i64 m]) ∧ (e0.at_ = none → Blk w' g 138 #[.int .i64 0, .int .i64 0]) ∧ Upd [g] [g] w w' := by
  have h6 := @run_callFunc_extern Tryd.prog 74 _ (fun args => ReflectliteValue.unpack (args.getD 0 (.tuple #[]))) Tryd.func74 (by kernel_rfl) (by kernel_rfl) (by kernel_rfl) (by kernel_rfl)
  have h7 := @run_callFunc_extern Tryd.prog 75 _ (ReflectliteValue.methodAny (ReflectliteValue.valueError "reflectlite.Value.Type" 0) (fun t _ _ _ => ReflectliteType.toType t)) Tryd.func75 (by kernel_rfl) (by kernel_rfl) (by kernel_rfl) (by kernel_rfl)
  have h8 := @run_callFunc_extern Tryd.prog 76 _ (ReflectliteValue.method (ReflectliteValue.valueError "reflectlite.Value.IsNil" 0) ReflectliteValue.isNil) Tryd.func76 (by kernel_rfl) (by kernel_rfl) (by kernel_rfl) (by kernel_rfl)
  have h27 := @run_callFunc_extern Tryd.prog 120 _ (ReflectliteType.abiMethod fun t => do pure (.int .u8 (← Rtype.kind t))) Tryd.func120 (by kernel_rfl) (by kernel_rfl) (by kernel_rfl) (by kernel_rfl)
  have h37 := @run_callFunc_extern Tryd.prog 138 _ (ReflectliteType.method ReflectliteType.elem) Tryd.func138 (by kernel_rfl) (by kernel_rfl) (by kernel_rfl) (by kernel_rfl)
  have h38 := @run_callFunc_extern Tryd.prog 139 _ (ReflectliteType.relation "Implements" ReflectliteType.implements_) Tryd.func139 (by kernel_rfl) (by kernel_rfl) (by kernel_rfl) (by kernel_rfl)
  have f6 := valueOfPWf
  have f7 := typePWf
  have mK := methodKind
  have mE := methodElem
  have mI := methodImplements
  have k27 := kindPWf
  have k25 := kindWf
  have e27 := elemPWf
  have i25 := implementsWf
  have n8 := isNilPWf ⟨w.heap.size, 0, none⟩ ⟨g, 0, none⟩ ((w.alloc (.cells #[.pointer (some ⟨g, 0, none⟩)] 139)).alloc (.cells #[.pointer (some ⟨1, 139, none⟩), .pointer (some ⟨w.heap.size, 0, none⟩), .int .u64 150] 146)) (by simp)
  have hg2 : ((w.alloc (.cells #[.pointer (some ⟨g, 0, none⟩)] 139)).alloc (.cells #[.pointer (some ⟨1, 139, none⟩), .pointer (some ⟨w.heap.size, 0, none⟩), .int .u64 150] 146)).cell? ⟨0, 0, none⟩ = some (.iface 184 (.agg #[.pointer (some ⟨1, 27, none⟩)])) := (hG.alloc _).alloc _
  obtain ⟨t, x, hx⟩ := e0.iface
  have C := as_at e0 g ⟨w.heap.size, 0, none⟩ (.int .i64 0) (.int .i64 0) ((w.alloc (.cells #[.pointer (some ⟨g, 0, none⟩)] 139)).alloc (.cells #[.pointer (some ⟨1, 139, none⟩), .pointer (some ⟨w.heap.size, 0, none⟩), .int .u64 150] 146)) ((hb.alloc _).alloc _) (by simp)
  rw [hx] at C ⊢
  clear hx
  go_enter Tryd.func41, Tryd.ntmps41
  repeat' ((fail_if_success (with_reducible refine stop_append rfl ?_)); (fail_if_success (with_reducible refine stop_copy rfl ?_)); first | go_values | go_skip | go_guarded | go_step | go_upon | (simp only []; go_at_K))
  refine C.mono ?_
  rintro ev w1 ⟨rfl, hb1, hb2, hu1⟩
  repeat' ((fail_if_success (with_reducible refine stop_append rfl ?_)); (fail_if_success (with_reducible refine stop_copy rfl ?_)); first | go_values | go_skip | go_guarded | go_step | go_upon | (simp only []; go_at_K))
  go_ret
  exact ⟨rfl, hb1, hb2, (((Upd.refl _ _).alloc _).alloc _).trans hu1⟩

end Go.Proofs.YtmnoahglajilhaaDoor
