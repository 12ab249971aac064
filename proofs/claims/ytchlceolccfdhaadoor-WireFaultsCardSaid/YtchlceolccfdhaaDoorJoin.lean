/- errors.New, errors.Join of two errors; errors.As, wire.Code and wire.At of what they make. -/
import Derived.Test.YtchlceolccfdhaaDoorErrs6
namespace Go.Proofs.YtchlceolccfdhaaDoor
open Go.RowKit Go.Extern.Stop Go.Stop Go.Extern Agio

theorem infoErr : (Tryd.prog.info? 36).map (fun i => (i.zero, i.size, i.bytes)) = some (some .nilIface, 1, 16) := by kernel_rfl
theorem typeOfStr (v : Value) (w : World) : (ReflectliteType.typeOf #[.iface 125 v]).run Tryd.prog w = .ok (.iface 195 (.agg #[.pointer (some ⟨1, 125, none⟩)])) w := by kernel_rfl
theorem assignStrErrno (w : World) : (ReflectliteType.relation "AssignableTo" ReflectliteType.assignableTo #[.agg #[.pointer (some ⟨1, 125, none⟩)], .iface 195 (.agg #[.pointer (some ⟨1, 53, none⟩)])]).run Tryd.prog w = .ok (.bool false) w := by kernel_rfl
theorem assignStrWf (w : World) : (ReflectliteType.relation "AssignableTo" ReflectliteType.assignableTo #[.agg #[.pointer (some ⟨1, 125, none⟩)], .iface 195 (.agg #[.pointer (some ⟨1, 133, none⟩)])]).run Tryd.prog w = .ok (.bool false) w := by kernel_rfl
theorem assertAsStr (v : Value) (w : World) : (Instr.typeAssert (.iface 125 v) 36 224 true).run Tryd.prog w = .ok (.tuple #[.nilIface, .bool false]) w := run_typeAssert_lacksB Tryd.underlying224 (by kernel_rfl) (by kernel_rfl) v _ w
theorem assertUnStr (v : Value) (w : World) : (Instr.typeAssert (.iface 125 v) 36 200 true).run Tryd.prog w = .ok (.tuple #[.nilIface, .bool false]) w := run_typeAssert_lacksB Tryd.underlying200 (by kernel_rfl) (by kernel_rfl) v _ w
theorem typeOfJo (v : Value) (w : World) : (ReflectliteType.typeOf #[.iface 122 v]).run Tryd.prog w = .ok (.iface 195 (.agg #[.pointer (some ⟨1, 122, none⟩)])) w := by kernel_rfl
theorem assignJoErrno (w : World) : (ReflectliteType.relation "AssignableTo" ReflectliteType.assignableTo #[.agg #[.pointer (some ⟨1, 122, none⟩)], .iface 195 (.agg #[.pointer (some ⟨1, 53, none⟩)])]).run Tryd.prog w = .ok (.bool false) w := by kernel_rfl
theorem assignJoWf (w : World) : (ReflectliteType.relation "AssignableTo" ReflectliteType.assignableTo #[.agg #[.pointer (some ⟨1, 122, none⟩)], .iface 195 (.agg #[.pointer (some ⟨1, 133, none⟩)])]).run Tryd.prog w = .ok (.bool false) w := by kernel_rfl
theorem assertAsJo (v : Value) (w : World) : (Instr.typeAssert (.iface 122 v) 36 224 true).run Tryd.prog w = .ok (.tuple #[.nilIface, .bool false]) w := run_typeAssert_lacksB Tryd.underlying224 (by kernel_rfl) (by kernel_rfl) v _ w
theorem assertUnJo (v : Value) (w : World) : (Instr.typeAssert (.iface 122 v) 36 200 true).run Tryd.prog w = .ok (.tuple #[.nilIface, .bool false]) w := run_typeAssert_lacksB Tryd.underlying200 (by kernel_rfl) (by kernel_rfl) v _ w
theorem assertUsStr (v : Value) (w : World) : (Instr.typeAssert (.iface 125 v) 36 201 true).run Tryd.prog w = .ok (.tuple #[.nilIface, .bool false]) w := run_typeAssert_lacksB Tryd.underlying201 (by kernel_rfl) (by kernel_rfl) v _ w
theorem assertUsJo (v : Value) (w : World) : (Instr.typeAssert (.iface 122 v) 36 201 true).run Tryd.prog w = .ok (.tuple #[.iface 122 v, .bool true]) w := run_typeAssert_hasB Tryd.underlying201 (by kernel_rfl) v _ w
theorem methodUnwrapJo (v : Value) (w : World) : (Go.method 361 122 v "Unwrap").run Tryd.prog w = .ok (144, v) w := by kernel_rfl

set_option maxRecDepth 100000 in
theorem errorsNew (s : ByteArray) (w : World) : Calls Tryd.prog 33 #[.string s] w fun e w' => e = .returned (.iface 125 (.pointer (some ⟨w.heap.size, 0, none⟩))) ∧ w' = w.alloc (.cells #[.string s] 127) := by
  go_enter Tryd.func33, Tryd.ntmps33
  repeat' ((fail_if_success (with_reducible refine stop_append rfl ?_)); (fail_if_success (with_reducible refine stop_copy rfl ?_)); first | go_values | go_skip | go_guarded | go_step | go_upon | (simp only []; go_at_K))
  go_ret
  exact ⟨rfl, rfl⟩
set_option maxRecDepth 100000 in
theorem joinUnwrap (j : Nat) (v : Value) (w : World) (hb : Blk w j 124 #[v]) : Calls Tryd.prog 144 #[.pointer (some ⟨j, 0, none⟩)] w fun e w' => e = .returned v ∧ w = w' := by
  have h0 := hb.cell 0
  simp at h0
  go_enter Tryd.func144, Tryd.ntmps144
  repeat' ((fail_if_success (with_reducible refine stop_append rfl ?_)); (fail_if_success (with_reducible refine stop_copy rfl ?_)); first | go_values | go_skip | go_guarded | go_step | go_upon | (simp only []; go_at_K))
  go_ret
  exact ⟨rfl, rfl⟩

set_option maxRecDepth 100000 in
set_option maxHeartbeats 4000000 in
theorem as_strErrno (v : Value) (g : Nat) (a : Addr) (w : World) :
    Calls Tryd.prog 102 #[.iface 125 v, .iface 120 (.pointer (some ⟨g, 0, none⟩)), .agg #[.pointer (some ⟨1, 120, none⟩), .pointer (some a), .int .u64 150], .iface 195 (.agg #[.pointer (some ⟨1, 53, none⟩)])] w fun ev w' => ev = .returned (.bool false) ∧ Upd [] [] w w' := by
  have h10 := @run_callFunc_extern Tryd.prog 65 _ ReflectliteType.typeOf Tryd.func65 (by kernel_rfl) (by kernel_rfl) (by kernel_rfl) (by kernel_rfl)
  have h35 := @run_callFunc_extern Tryd.prog 158 _ (ReflectliteType.relation "AssignableTo" ReflectliteType.assignableTo) Tryd.func158 (by kernel_rfl) (by kernel_rfl) (by kernel_rfl) (by kernel_rfl)
  have mA := methodAssignableTo
  have tO := typeOfStr
  have aE := assignStrErrno
  have iA := assertAsStr
  have iU := assertUnStr
  have iS := assertUsStr
  go_enter Tryd.func102, Tryd.ntmps102
  repeat' ((fail_if_success (with_reducible refine stop_append rfl ?_)); (fail_if_success (with_reducible refine stop_copy rfl ?_)); first | go_values | go_skip | go_guarded | go_step | go_upon | (simp only []; go_at_K))
  go_loopw [0] (fun u wr => u = .iface 125 v ∧ Upd [] [] w wr) (fun _ _ => 0)
  case atStart => exact ⟨rfl, (Upd.refl _ _).alloc _⟩
  case round =>
    obtain ⟨rfl, hu⟩ := hrel
    repeat' ((fail_if_success (with_reducible refine stop_append rfl ?_)); (fail_if_success (with_reducible refine stop_copy rfl ?_)); first | go_values | go_skip | go_guarded | go_step | go_upon | (simp only []; go_at_K))
    go_ret
    exact ⟨rfl, hu⟩

set_option maxRecDepth 100000 in
set_option maxHeartbeats 4000000 in
theorem as_strWf (v : Value) (g : Nat) (a : Addr) (w : World) :
    Calls Tryd.prog 102 #[.iface 125 v, .iface 134 (.pointer (some ⟨g, 0, none⟩)), .agg #[.pointer (some ⟨1, 134, none⟩), .pointer (some a), .int .u64 150], .iface 195 (.agg #[.pointer (some ⟨1, 133, none⟩)])] w fun ev w' => ev = .returned (.bool false) ∧ Upd [] [] w w' := by
  have h10 := @run_callFunc_extern Tryd.prog 65 _ ReflectliteType.typeOf Tryd.func65 (by kernel_rfl) (by kernel_rfl) (by kernel_rfl) (by kernel_rfl)
  have h35 := @run_callFunc_extern Tryd.prog 158 _ (ReflectliteType.relation "AssignableTo" ReflectliteType.assignableTo) Tryd.func158 (by kernel_rfl) (by kernel_rfl) (by kernel_rfl) (by kernel_rfl)
  have mA := methodAssignableTo
  have tO := typeOfStr
  have aE := assignStrWf
  have iA := assertAsStr
  have iU := assertUnStr
  have iS := assertUsStr
  go_enter Tryd.func102, Tryd.ntmps102
  repeat' ((fail_if_success (with_reducible refine stop_append rfl ?_)); (fail_if_success (with_reducible refine stop_copy rfl ?_)); first | go_values | go_skip | go_guarded | go_step | go_upon | (simp only []; go_at_K))
  go_loopw [0] (fun u wr => u = .iface 125 v ∧ Upd [] [] w wr) (fun _ _ => 0)
  case atStart => exact ⟨rfl, (Upd.refl _ _).alloc _⟩
  case round =>
    obtain ⟨rfl, hu⟩ := hrel
    repeat' ((fail_if_success (with_reducible refine stop_append rfl ?_)); (fail_if_success (with_reducible refine stop_copy rfl ?_)); first | go_values | go_skip | go_guarded | go_step | go_upon | (simp only []; go_at_K))
    go_ret
    exact ⟨rfl, hu⟩

set_option maxRecDepth 100000 in
set_option maxHeartbeats 4000000 in
theorem as_joinErrno (e0 : Er) (v : Value) (j g n : Nat) (ad a : Addr) (old : Value) (w : World) (hj : Blk w j 124 #[.slice (some ad) 2 n]) (c0 : w.cell? ad = some (.iface 125 v)) (c1 : w.cell? (ad.add 1) = some e0.val) (hb : Blk w g 53 #[old]) (ha : w.cell? a = some (.pointer (some ⟨g, 0, none⟩))) (_hg : g ≠ j) :
    Calls Tryd.prog 102 #[.iface 122 (.pointer (some ⟨j, 0, none⟩)), .iface 120 (.pointer (some ⟨g, 0, none⟩)), .agg #[.pointer (some ⟨1, 120, none⟩), .pointer (some a), .int .u64 150], .iface 195 (.agg #[.pointer (some ⟨1, 53, none⟩)])] w fun ev w' => ev = .returned (.bool true) ∧ Blk w' g 53 #[.int .i64 e0.code] ∧ Upd [g] [g] w w' := by
  have h10 := @run_callFunc_extern Tryd.prog 65 _ ReflectliteType.typeOf Tryd.func65 (by kernel_rfl) (by kernel_rfl) (by kernel_rfl) (by kernel_rfl)
  have h35 := @run_callFunc_extern Tryd.prog 158 _ (ReflectliteType.relation "AssignableTo" ReflectliteType.assignableTo) Tryd.func158 (by kernel_rfl) (by kernel_rfl) (by kernel_rfl) (by kernel_rfl)
  have mA := methodAssignableTo
  have tO := typeOfJo
  have aE := assignJoErrno
  have iA := assertAsJo
  have iU := assertUnJo
  have iS := assertUsJo
  have mU := methodUnwrapJo
  obtain ⟨t, z, hx⟩ := e0.iface
  have C := fun W => as_code e0 g a old W
  rw [hx] at c1 C
  have HC := Lib.hid C; clear C hx
  have hlj := hj.lt
  have hl0 := World.block_lt_of_cell? w _ c0
  have hl1 := World.block_lt_of_cell? w _ c1
  have hla := World.block_lt_of_cell? w _ ha
  go_enter Tryd.func102, Tryd.ntmps102
  repeat' ((fail_if_success (with_reducible refine stop_append rfl ?_)); (fail_if_success (with_reducible refine stop_copy rfl ?_)); first | go_values | go_skip | go_guarded | go_step | go_upon | (simp only []; go_at_K))
  go_loopw [0] (fun u wr => u = .iface 122 (.pointer (some ⟨j, 0, none⟩)) ∧ Blk wr w.heap.size 187 #[.pointer (some ⟨1, 120, none⟩), .pointer (some a), .int .u64 150] ∧ Blk wr j 124 #[.slice (some ad) 2 n] ∧ wr.cell? ad = some (.iface 125 v) ∧ wr.cell? (ad.add 1) = some (.iface t z) ∧ Blk wr g 53 #[old] ∧ wr.cell? a = some (.pointer (some ⟨g, 0, none⟩)) ∧ Upd [g] [g] w wr) (fun _ _ => 0)
  case atStart => exact ⟨rfl, Blk.new _ _ _, hj.alloc _, (World.cell?_alloc_lt _ _ _ hl0).trans c0, (World.cell?_alloc_lt _ _ _ hl1).trans c1, hb.alloc _, (World.cell?_alloc_lt _ _ _ hla).trans ha, (Upd.refl _ _).alloc _⟩
  case round =>
    obtain ⟨rfl, hbx, hbj, hc0, hc1, hbg, hca, hu⟩ := hrel
    repeat' ((fail_if_success (with_reducible refine stop_append rfl ?_)); (fail_if_success (with_reducible refine stop_copy rfl ?_)); first | go_values | go_skip | go_guarded | go_step | go_upon | (simp only []; go_at_K))
    refine (joinUnwrap j _ wr hbj).mono ?_
    rintro ev w1 ⟨rfl, rfl⟩
    repeat' ((fail_if_success (with_reducible refine stop_append rfl ?_)); (fail_if_success (with_reducible refine stop_copy rfl ?_)); first | go_values | go_skip | go_guarded | go_step | go_upon | (simp only []; go_at_K))
    go_loopw [50] (fun v50 w2 => ∃ i : Nat, i ≤ 1 ∧ v50 = .int .i64 (i : Int) ∧ Blk w2 w.heap.size 187 #[.pointer (some ⟨1, 120, none⟩), .pointer (some a), .int .u64 150] ∧ Blk w2 j 124 #[.slice (some ad) 2 n] ∧ w2.cell? ad = some (.iface 125 v) ∧ w2.cell? (ad.add 1) = some (.iface t z) ∧ Blk w2 g 53 #[old] ∧ w2.cell? a = some (.pointer (some ⟨g, 0, none⟩)) ∧ Upd [g] [g] w w2) (fun v50 _ => 2 - (intOf v50).toNat)
    case atStart => exact ⟨0, by omega, rfl, hbx, hbj, hc0, hc1, hbg, hca, hu⟩
    case round =>
      clear hbx hbj hc0 hc1 hbg hca hu
      obtain ⟨i, hi, rfl, hbx, hbj, hc0, hc1, hbg, hca, hu⟩ := hrel
      have hx0 := hbx.cell 0
      have hx1 := hbx.cell 1
      have hx2 := hbx.cell 2
      simp at hx0 hx1 hx2
      have hi2 : i = 0 ∨ i = 1 := by omega
      rcases hi2 with rfl | rfl
      · repeat' ((fail_if_success (with_reducible refine stop_append rfl ?_)); (fail_if_success (with_reducible refine stop_copy rfl ?_)); first | go_values | go_skip | go_guarded | go_step | go_upon | (simp only []; go_at_K))
        refine (as_strErrno v g a _).mono ?_
        rintro ev w3 ⟨rfl, hu3⟩
        repeat' ((fail_if_success (with_reducible refine stop_append rfl ?_)); (fail_if_success (with_reducible refine stop_copy rfl ?_)); first | go_values | go_skip | go_guarded | go_step | go_upon | (simp only []; go_at_K))
        refine ⟨⟨1, by omega, rfl, hbx.upd hu3 (by simp), hbj.upd hu3 (by simp), hu3.cell hc0 (by simp), hu3.cell hc1 (by simp), hbg.upd hu3 (by simp), hu3.cell hca (by simp), hu.trans (hu3.up _)⟩, by simp [intOf]⟩
      · have hc2 := hc1
        unfold Addr.add at hc2
        rw [if_neg (by decide)] at hc2
        repeat' ((fail_if_success (with_reducible refine stop_append rfl ?_)); (fail_if_success (with_reducible refine stop_copy rfl ?_)); first | go_values | go_skip | go_guarded | go_step | go_upon | (simp only []; go_at_K))
        refine (HC.out _ hbg hca).mono ?_
        rintro ev w3 ⟨rfl, hb3, hu3⟩
        repeat' ((fail_if_success (with_reducible refine stop_append rfl ?_)); (fail_if_success (with_reducible refine stop_copy rfl ?_)); first | go_values | go_skip | go_guarded | go_step | go_upon | (simp only []; go_at_K))
        go_ret
        exact ⟨rfl, hb3, hu.trans hu3⟩

set_option maxRecDepth 100000 in
set_option maxHeartbeats 4000000 in
theorem as_joinWf (e0 : Er) (m : Int) (hat : e0.at_ = some m) (v : Value) (j g n : Nat) (ad a : Addr) (x y : Value) (w : World) (hj : Blk w j 124 #[.slice (some ad) 2 n]) (c0 : w.cell? ad = some (.iface 125 v)) (c1 : w.cell? (ad.add 1) = some e0.val) (hb : Blk w g 133 #[x, y]) (ha : w.cell? a = some (.pointer (some ⟨g, 0, none⟩))) (_hg : g ≠ j) :
    Calls Tryd.prog 102 #[.iface 122 (.pointer (some ⟨j, 0, none⟩)), .iface 134 (.pointer (some ⟨g, 0, none⟩)), .agg #[.pointer (some ⟨1, 134, none⟩), .pointer (some a), .int .u64 150], .iface 195 (.agg #[.pointer (some ⟨1, 133, none⟩)])] w fun ev w' => ev = .returned (.bool true) ∧ (∃ n, Blk w' g 133 #[.int .i64 n, .int .i64 m]) ∧ Upd [g] [g] w w' := by
  have h10 := @run_callFunc_extern Tryd.prog 65 _ ReflectliteType.typeOf Tryd.func65 (by kernel_rfl) (by kernel_rfl) (by kernel_rfl) (by kernel_rfl)
  have h35 := @run_callFunc_extern Tryd.prog 158 _ (ReflectliteType.relation "AssignableTo" ReflectliteType.assignableTo) Tryd.func158 (by kernel_rfl) (by kernel_rfl) (by kernel_rfl) (by kernel_rfl)
  have mA := methodAssignableTo
  have tO := typeOfJo
  have aE := assignJoWf
  have iA := assertAsJo
  have iU := assertUnJo
  have iS := assertUsJo
  have mU := methodUnwrapJo
  obtain ⟨t, z, hx⟩ := e0.iface
  have C := fun W => as_at e0 g a x y W
  rw [hx] at c1 C
  rw [hat] at C
  have HC := Lib.hid C; clear C hx
  have hlj := hj.lt
  have hl0 := World.block_lt_of_cell? w _ c0
  have hl1 := World.block_lt_of_cell? w _ c1
  have hla := World.block_lt_of_cell? w _ ha
  go_enter Tryd.func102, Tryd.ntmps102
  repeat' ((fail_if_success (with_reducible refine stop_append rfl ?_)); (fail_if_success (with_reducible refine stop_copy rfl ?_)); first | go_values | go_skip | go_guarded | go_step | go_upon | (simp only []; go_at_K))
  go_loopw [0] (fun u wr => u = .iface 122 (.pointer (some ⟨j, 0, none⟩)) ∧ Blk wr w.heap.size 187 #[.pointer (some ⟨1, 134, none⟩), .pointer (some a), .int .u64 150] ∧ Blk wr j 124 #[.slice (some ad) 2 n] ∧ wr.cell? ad = some (.iface 125 v) ∧ wr.cell? (ad.add 1) = some (.iface t z) ∧ Blk wr g 133 #[x, y] ∧ wr.cell? a = some (.pointer (some ⟨g, 0, none⟩)) ∧ Upd [g] [g] w wr) (fun _ _ => 0)
  case atStart => exact ⟨rfl, Blk.new _ _ _, hj.alloc _, (World.cell?_alloc_lt _ _ _ hl0).trans c0, (World.cell?_alloc_lt _ _ _ hl1).trans c1, hb.alloc _, (World.cell?_alloc_lt _ _ _ hla).trans ha, (Upd.refl _ _).alloc _⟩
  case round =>
    obtain ⟨rfl, hbx, hbj, hc0, hc1, hbg, hca, hu⟩ := hrel
    repeat' ((fail_if_success (with_reducible refine stop_append rfl ?_)); (fail_if_success (with_reducible refine stop_copy rfl ?_)); first | go_values | go_skip | go_guarded | go_step | go_upon | (simp only []; go_at_K))
    refine (joinUnwrap j _ wr hbj).mono ?_
    rintro ev w1 ⟨rfl, rfl⟩
    repeat' ((fail_if_success (with_reducible refine stop_append rfl ?_)); (fail_if_success (with_reducible refine stop_copy rfl ?_)); first | go_values | go_skip | go_guarded | go_step | go_upon | (simp only []; go_at_K))
    go_loopw [50] (fun v50 w2 => ∃ i : Nat, i ≤ 1 ∧ v50 = .int .i64 (i : Int) ∧ Blk w2 w.heap.size 187 #[.pointer (some ⟨1, 134, none⟩), .pointer (some a), .int .u64 150] ∧ Blk w2 j 124 #[.slice (some ad) 2 n] ∧ w2.cell? ad = some (.iface 125 v) ∧ w2.cell? (ad.add 1) = some (.iface t z) ∧ Blk w2 g 133 #[x, y] ∧ w2.cell? a = some (.pointer (some ⟨g, 0, none⟩)) ∧ Upd [g] [g] w w2) (fun v50 _ => 2 - (intOf v50).toNat)
    case atStart => exact ⟨0, by omega, rfl, hbx, hbj, hc0, hc1, hbg, hca, hu⟩
    case round =>
      clear hbx hbj hc0 hc1 hbg hca hu
      obtain ⟨i, hi, rfl, hbx, hbj, hc0, hc1, hbg, hca, hu⟩ := hrel
      have hx0 := hbx.cell 0
      have hx1 := hbx.cell 1
      have hx2 := hbx.cell 2
      simp at hx0 hx1 hx2
      have hi2 : i = 0 ∨ i = 1 := by omega
      rcases hi2 with rfl | rfl
      · repeat' ((fail_if_success (with_reducible refine stop_append rfl ?_)); (fail_if_success (with_reducible refine stop_copy rfl ?_)); first | go_values | go_skip | go_guarded | go_step | go_upon | (simp only []; go_at_K))
        refine (as_strWf v g a _).mono ?_
        rintro ev w3 ⟨rfl, hu3⟩
        repeat' ((fail_if_success (with_reducible refine stop_append rfl ?_)); (fail_if_success (with_reducible refine stop_copy rfl ?_)); first | go_values | go_skip | go_guarded | go_step | go_upon | (simp only []; go_at_K))
        refine ⟨⟨1, by omega, rfl, hbx.upd hu3 (by simp), hbj.upd hu3 (by simp), hu3.cell hc0 (by simp), hu3.cell hc1 (by simp), hbg.upd hu3 (by simp), hu3.cell hca (by simp), hu.trans (hu3.up _)⟩, by simp [intOf]⟩
      · have hc2 := hc1
        unfold Addr.add at hc2
        rw [if_neg (by decide)] at hc2
        repeat' ((fail_if_success (with_reducible refine stop_append rfl ?_)); (fail_if_success (with_reducible refine stop_copy rfl ?_)); first | go_values | go_skip | go_guarded | go_step | go_upon | (simp only []; go_at_K))
        refine (HC.out _ hbg hca).mono ?_
        rintro ev w3 ⟨rfl, hb3, -, hu3⟩
        repeat' ((fail_if_success (with_reducible refine stop_append rfl ?_)); (fail_if_success (with_reducible refine stop_copy rfl ?_)); first | go_values | go_skip | go_guarded | go_step | go_upon | (simp only []; go_at_K))
        go_ret
        exact ⟨rfl, hb3 m rfl, hu.trans hu3⟩

end Go.Proofs.YtchlceolccfdhaaDoor
