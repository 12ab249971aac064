/- errors.as and errors.As at the target *api.Errno, of any error of this program's kinds. -/
import Derived.Test.YtchlceolccfdhaaDoorErrs
import Derived.Test.YtchlceolccfdhaaDoorBase
namespace Go.Proofs.YtchlceolccfdhaaDoor
open Go.RowKit Go.Extern.Stop Go.Stop Go.Extern Agio

/-- The errors of this program: a number; a reader's, at a place; a command's, of another; a record's, a packet's, of a number. -/
inductive Er where
  | no (n : Int) | wf (n m : Int) | cf (e : Er) | af (n : Int) | nf (n : Int)
def Er.val : Er → Value
  | .no n => .iface 53 (.int .i64 n)
  | .wf n m => .iface 133 (.agg #[.int .i64 n, .int .i64 m])
  | .cf e => .iface 144 (.agg #[e.val])
  | .af n => .iface 160 (.agg #[.int .i64 n])
  | .nf n => .iface 180 (.agg #[.int .i64 n])
/-- The first number that it wraps. -/
def Er.code : Er → Int
  | .no n => n | .wf n _ => n | .cf e => e.code | .af n => n | .nf n => n
def Er.deep : Er → Nat
  | .no _ => 0 | .wf _ _ => 1 | .cf e => e.deep + 1 | .af _ => 1 | .nf _ => 1
/-- What the walk keeps in slot 0, and how deep it is. -/
def erIn (v : Value) (e : Er) : Prop := v = e.val

theorem Er.val_inj : ∀ a b : Er, a.val = b.val → a = b
  | .no _, .no _, h => by simp [Er.val] at h; simp [h]
  | .wf _ _, .wf _ _, h => by simp [Er.val] at h; simp [h]
  | .cf a, .cf b, h => by
    have := Er.val_inj a b (by simpa [Er.val] using h)
    rw [this]
  | .af _, .af _, h => by simp [Er.val] at h; simp [h]
  | .nf _, .nf _, h => by simp [Er.val] at h; simp [h]
  | .no _, .wf _ _, h | .no _, .cf _, h | .no _, .af _, h | .no _, .nf _, h => by simp [Er.val] at h
  | .wf _ _, .no _, h | .wf _ _, .cf _, h | .wf _ _, .af _, h | .wf _ _, .nf _, h => by simp [Er.val] at h
  | .cf _, .no _, h | .cf _, .wf _ _, h | .cf _, .af _, h | .cf _, .nf _, h => by simp [Er.val] at h
  | .af _, .no _, h | .af _, .wf _ _, h | .af _, .cf _, h | .af _, .nf _, h => by simp [Er.val] at h
  | .nf _, .no _, h | .nf _, .wf _ _, h | .nf _, .cf _, h | .nf _, .af _, h => by simp [Er.val] at h
open Classical in
/-- How often it can be unwrapped. -/
noncomputable def vdeep (v : Value) : Nat := if h : ∃ e : Er, e.val = v then (Classical.choose h).deep else 0
theorem vdeep_val (e : Er) : vdeep e.val = e.deep := by
  have h : ∃ e' : Er, e'.val = e.val := ⟨e, rfl⟩
  unfold vdeep
  rw [dif_pos h, Er.val_inj _ _ (Classical.choose_spec h)]

theorem Er.iface (e : Er) : ∃ t x, e.val = .iface t x := by cases e <;> exact ⟨_, _, rfl⟩
theorem erLt (a b : Er) (h : a.deep < b.deep) : vdeep a.val < vdeep b.val := by rw [vdeep_val, vdeep_val]; exact h

set_option maxRecDepth 100000 in
theorem unwrapWf (n m : Int) (w : World) : Calls Tryd.prog 147 #[.agg #[.int .i64 n, .int .i64 m]] w fun e w' => e = .returned (.iface 53 (.int .i64 n)) ∧ Upd [] [] w w' := by
  go_enter Tryd.func147, Tryd.ntmps147
  repeat' ((fail_if_success (refine stop_append rfl ?_)); (fail_if_success (refine stop_copy rfl ?_)); first | go_values | go_skip | go_guarded | go_step | go_upon | (simp only []; go_at_K))
  go_ret
  exact ⟨rfl, (Upd.refl _ _).alloc _⟩

set_option maxRecDepth 100000 in
theorem unwrapCf (t : TypeId) (x : Value) (w : World) : Calls Tryd.prog 149 #[.agg #[.iface t x]] w fun e w' => e = .returned (.iface t x) ∧ Upd [] [] w w' := by
  go_enter Tryd.func149, Tryd.ntmps149
  repeat' ((fail_if_success (refine stop_append rfl ?_)); (fail_if_success (refine stop_copy rfl ?_)); first | go_values | go_skip | go_guarded | go_step | go_upon | (simp only []; go_at_K))
  go_ret
  exact ⟨rfl, (Upd.refl _ _).alloc _⟩

set_option maxRecDepth 100000 in
theorem unwrapAf (n : Int) (w : World) : Calls Tryd.prog 151 #[.agg #[.int .i64 n]] w fun e w' => e = .returned (.iface 53 (.int .i64 n)) ∧ Upd [] [] w w' := by
  go_enter Tryd.func151, Tryd.ntmps151
  repeat' ((fail_if_success (refine stop_append rfl ?_)); (fail_if_success (refine stop_copy rfl ?_)); first | go_values | go_skip | go_guarded | go_step | go_upon | (simp only []; go_at_K))
  go_ret
  exact ⟨rfl, (Upd.refl _ _).alloc _⟩

set_option maxRecDepth 100000 in
theorem unwrapNf (n : Int) (w : World) : Calls Tryd.prog 153 #[.agg #[.int .i64 n]] w fun e w' => e = .returned (.iface 53 (.int .i64 n)) ∧ Upd [] [] w w' := by
  go_enter Tryd.func153, Tryd.ntmps153
  repeat' ((fail_if_success (refine stop_append rfl ?_)); (fail_if_success (refine stop_copy rfl ?_)); first | go_values | go_skip | go_guarded | go_step | go_upon | (simp only []; go_at_K))
  go_ret
  exact ⟨rfl, (Upd.refl _ _).alloc _⟩

set_option maxRecDepth 100000 in
set_option maxHeartbeats 4000000 in
theorem as_code (e0 : Er) (g : Nat) (a : Addr) (old : Value) (w : World) (hb : Blk w g 53 #[old]) (ha : w.cell? a = some (.pointer (some ⟨g, 0, none⟩))) :
    Calls Tryd.prog 102 #[e0.val, .iface 120 (.pointer (some ⟨g, 0, none⟩)), .agg #[.pointer (some ⟨1, 120, none⟩), .pointer (some a), .int .u64 150], .iface 195 (.agg #[.pointer (some ⟨1, 53, none⟩)])] w
      fun ev w' => ev = .returned (.bool true) ∧ Blk w' g 53 #[.int .i64 e0.code] ∧ Upd [g] [g] w w' := by
  have h10 := @run_callFunc_extern Tryd.prog 65 _ ReflectliteType.typeOf Tryd.func65 (by kernel_rfl) (by kernel_rfl) (by kernel_rfl) (by kernel_rfl)
  have h35 := @run_callFunc_extern Tryd.prog 158 _ (ReflectliteType.relation "AssignableTo" ReflectliteType.assignableTo) Tryd.func158 (by kernel_rfl) (by kernel_rfl) (by kernel_rfl) (by kernel_rfl)
  have h49 := @run_callFunc_extern Tryd.prog 116 _ (ReflectliteValue.method (ReflectliteValue.valueError "reflectlite.Value.Elem" 0) ReflectliteValue.elem) Tryd.func116 (by kernel_rfl) (by kernel_rfl) (by kernel_rfl) (by kernel_rfl)
  have h45 := @run_callFunc_extern Tryd.prog 99 _ (fun args => ReflectliteValue.unpack (args.getD 0 (.tuple #[]))) Tryd.func99 (by kernel_rfl) (by kernel_rfl) (by kernel_rfl) (by kernel_rfl)
  have h50 := @run_callFunc_extern Tryd.prog 117 _ ReflectliteValue.set Tryd.func117 (by kernel_rfl) (by kernel_rfl) (by kernel_rfl) (by kernel_rfl)
  have tO := typeOfErrno
  have mA := methodAssignableTo
  have aE := assignableErrno
  go_enter Tryd.func102, Tryd.ntmps102
  repeat' ((fail_if_success (refine stop_append rfl ?_)); (fail_if_success (refine stop_copy rfl ?_)); first | go_values | go_skip | go_guarded | go_step | go_upon | (simp only []; go_at_K))
  go_loopw [0] (fun v wr => ∃ e : Er, erIn v e ∧ e.code = e0.code ∧ ∃ bx : Nat, bx = w.heap.size ∧ Blk wr bx 187 #[.pointer (some ⟨1, 120, none⟩), .pointer (some a), .int .u64 150] ∧ Blk wr g 53 #[old] ∧ wr.cell? a = some (.pointer (some ⟨g, 0, none⟩)) ∧ Upd [g] [g] w wr)
    (fun v _ => vdeep v)
  case atStart =>
    refine ⟨e0, rfl, rfl, _, rfl, Blk.new _ _ _, hb.alloc _, ?_, (Upd.refl _ _).alloc _⟩
    rw [World.cell?_alloc_lt _ _ _ (World.block_lt_of_cell? w a ha)]; exact ha
  case round =>
    obtain ⟨e, rfl, hcode, bx, rfl, hbx, hbg, hca, hu⟩ := hrel
    have HC := Lib.hid hcode; clear hcode
    have hx0 := hbx.cell 0
    have hx1 := hbx.cell 1
    have hx2 := hbx.cell 2
    simp at hx0 hx1 hx2
    cases e with
    | no n =>
      have hv := valueOfErrno n
      have el := elemVErrno a ⟨g, 0, none⟩ wr hca
      have hg2 : Blk (wr.alloc (.cells #[.int .i64 n] 53)) g 53 #[old] := hbg.alloc _
      have st := setErrno ⟨g, 0, none⟩ ⟨wr.heap.size, 0, none⟩ n old (wr.alloc (.cells #[.int .i64 n] 53)) (by simp) (by simpa using hg2.cell 0) (hg2.frozen 0)
      simp only [Er.val]
      repeat' ((fail_if_success (refine stop_append rfl ?_)); (fail_if_success (refine stop_copy rfl ?_)); first | go_values | go_skip | go_guarded | go_step | go_upon | (simp only []; go_at_K))
      go_ret
      refine ⟨rfl, ?_, (hu.alloc _).setCell (.inl (by simp)) _⟩
      rw [← HC.out]
      simpa [Er.code] using hg2.set_ 0 (.int .i64 n)
    | wf n m =>
      have tW := typeOfWf
      have aW := assignWfErrno
      have iA := assertAsWf
      have iU := assertUnWf
      have mU := methodUnwrapWf
      simp only [Er.val]
      repeat' ((fail_if_success (refine stop_append rfl ?_)); (fail_if_success (refine stop_copy rfl ?_)); first | go_values | go_skip | go_guarded | go_step | go_upon | (simp only []; go_at_K))
      refine (unwrapWf n m wr).mono ?_
      rintro ev w1 ⟨rfl, hu1⟩
      repeat' ((fail_if_success (refine stop_append rfl ?_)); (fail_if_success (refine stop_copy rfl ?_)); first | go_values | go_skip | go_guarded | go_step | go_upon | (simp only []; go_at_K))
      refine ⟨⟨(Er.no n), rfl, HC.out, _, rfl, hbx.upd hu1 (by simp), hbg.upd hu1 (by simp), hu1.cell hca (by simp), hu.trans (hu1.mono (by simp) (by simp))⟩, ?_⟩
      exact erLt (Er.no n) (Er.wf n m) (by simp [Er.deep])
    | cf e =>
      have tW := typeOfCf
      have aW := assignCfErrno
      have iA := assertAsCf
      have iU := assertUnCf
      have mU := methodUnwrapCf
      obtain ⟨t, x, hx⟩ := e.iface
      simp only [Er.val, hx]
      have HX := Lib.hid hx; clear hx
      repeat' ((fail_if_success (refine stop_append rfl ?_)); (fail_if_success (refine stop_copy rfl ?_)); first | go_values | go_skip | go_guarded | go_step | go_upon | (simp only []; go_at_K))
      refine (unwrapCf t x wr).mono ?_
      rintro ev w1 ⟨rfl, hu1⟩
      repeat' ((fail_if_success (refine stop_append rfl ?_)); (fail_if_success (refine stop_copy rfl ?_)); first | go_values | go_skip | go_guarded | go_step | go_upon | (simp only []; go_at_K))
      refine ⟨⟨e, HX.out.symm, HC.out, _, rfl, hbx.upd hu1 (by simp), hbg.upd hu1 (by simp), hu1.cell hca (by simp), hu.trans (hu1.mono (by simp) (by simp))⟩, ?_⟩
      rw [← HX.out]
      exact erLt e (Er.cf e) (by simp [Er.deep])
    | af n =>
      have tW := typeOfAf
      have aW := assignAfErrno
      have iA := assertAsAf
      have iU := assertUnAf
      have mU := methodUnwrapAf
      simp only [Er.val]
      repeat' ((fail_if_success (refine stop_append rfl ?_)); (fail_if_success (refine stop_copy rfl ?_)); first | go_values | go_skip | go_guarded | go_step | go_upon | (simp only []; go_at_K))
      refine (unwrapAf n wr).mono ?_
      rintro ev w1 ⟨rfl, hu1⟩
      repeat' ((fail_if_success (refine stop_append rfl ?_)); (fail_if_success (refine stop_copy rfl ?_)); first | go_values | go_skip | go_guarded | go_step | go_upon | (simp only []; go_at_K))
      refine ⟨⟨(Er.no n), rfl, HC.out, _, rfl, hbx.upd hu1 (by simp), hbg.upd hu1 (by simp), hu1.cell hca (by simp), hu.trans (hu1.mono (by simp) (by simp))⟩, ?_⟩
      exact erLt (Er.no n) (Er.af n) (by simp [Er.deep])
    | nf n =>
      have tW := typeOfNf
      have aW := assignNfErrno
      have iA := assertAsNf
      have iU := assertUnNf
      have mU := methodUnwrapNf
      simp only [Er.val]
      repeat' ((fail_if_success (refine stop_append rfl ?_)); (fail_if_success (refine stop_copy rfl ?_)); first | go_values | go_skip | go_guarded | go_step | go_upon | (simp only []; go_at_K))
      refine (unwrapNf n wr).mono ?_
      rintro ev w1 ⟨rfl, hu1⟩
      repeat' ((fail_if_success (refine stop_append rfl ?_)); (fail_if_success (refine stop_copy rfl ?_)); first | go_values | go_skip | go_guarded | go_step | go_upon | (simp only []; go_at_K))
      refine ⟨⟨(Er.no n), rfl, HC.out, _, rfl, hbx.upd hu1 (by simp), hbg.upd hu1 (by simp), hu1.cell hca (by simp), hu.trans (hu1.mono (by simp) (by simp))⟩, ?_⟩
      exact erLt (Er.no n) (Er.nf n) (by simp [Er.deep])
end Go.Proofs.YtchlceolccfdhaaDoor
