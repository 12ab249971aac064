/- Frames: (agio/frame).four, sum, first, Put, Take, Scan. -/
import Derived.Test.YtdmkhmejpgjioaaDoorCrc
import Derived.Test.YtdmkhmejpgjioaaDoorBase2
import Derived.Laws.Cover3
import Derived.Laws.StructEq
import Derived.Deep.RegionWith
set_option linter.all false
namespace Go.Proofs.YtdmkhmejpgjioaaDoor
open Go.RowKit Agio

/-- Arrays of four bytes compared. -/
theorem neq4 (a0 a1 a2 a3 b0 b1 b2 b3 : Int) (w : World) : (binOp .neq 166 (.agg #[.int .u8 a0, .int .u8 a1, .int .u8 a2, .int .u8 a3]) (.agg #[.int .u8 b0, .int .u8 b1, .int .u8 b2, .int .u8 b3])).run Tryd.prog w
    = .ok (.bool (!((a0 == b0) && ((a1 == b1) && ((a2 == b2) && (a3 == b3)))))) w := by
  have p0 := fun (x0 x1 x2 x3 : Int) (w : World) => show (part 5 #[.int .u8 x0, .int .u8 x1, .int .u8 x2, .int .u8 x3] 0).run Tryd.prog w = .ok (.int .u8 x0) w by kernel_rfl
  have p1 := fun (x0 x1 x2 x3 : Int) (w : World) => show (part 5 #[.int .u8 x0, .int .u8 x1, .int .u8 x2, .int .u8 x3] 1).run Tryd.prog w = .ok (.int .u8 x1) w by kernel_rfl
  have p2 := fun (x0 x1 x2 x3 : Int) (w : World) => show (part 5 #[.int .u8 x0, .int .u8 x1, .int .u8 x2, .int .u8 x3] 2).run Tryd.prog w = .ok (.int .u8 x2) w by kernel_rfl
  have p3 := fun (x0 x1 x2 x3 : Int) (w : World) => show (part 5 #[.int .u8 x0, .int .u8 x1, .int .u8 x2, .int .u8 x3] 3).run Tryd.prog w = .ok (.int .u8 x3) w by kernel_rfl
  have e0 := fun (a b : Int) (w : World) => show (Op.equalIn 9999 5 (.int .u8 a) (.int .u8 b)).run Tryd.prog w = .ok (a == b) w by kernel_rfl
  have z := fun (w : World) => show (sizeOf 5).run Tryd.prog w = .ok 1 w by kernel_rfl
  rw [run_neq_struct]
  rw [show (10000 : Nat) = 9999 + 1 from rfl, Op.equalIn]
  simp only [Sem.run_bind, run_underlying Tryd.underlying166, Result.andThen_ok, z, Std.Legacy.Range.forIn_eq_forIn_range', Std.Legacy.Range.size, List.range', List.forIn_cons, List.forIn_nil, Nat.zero_mul, Nat.one_mul, Nat.reduceAdd, Nat.reduceMul, Nat.reduceSub, Nat.reduceDiv, Nat.add_zero, Nat.mul_one, Nat.zero_add, Nat.sub_zero, p0, p1, p2, p3, e0]
  cases a0 == b0
  · simp [Sem.run_pure]
  simp only [Bool.not_true, Bool.false_eq_true, if_false, Sem.run_pure, Sem.run_bind, Result.andThen_ok, p0, p1, p2, p3, e0]
  cases a1 == b1
  · simp [Sem.run_pure]
  simp only [Bool.not_true, Bool.false_eq_true, if_false, Sem.run_pure, Sem.run_bind, Result.andThen_ok, p0, p1, p2, p3, e0]
  cases a2 == b2
  · simp [Sem.run_pure]
  simp only [Bool.not_true, Bool.false_eq_true, if_false, Sem.run_pure, Sem.run_bind, Result.andThen_ok, p0, p1, p2, p3, e0]
  cases a3 == b3 <;> simp [Sem.run_pure]
/-- Four bytes as an array. -/
def arr4 (l : List UInt8) : Value := .agg (b8s l).toArray
theorem arr4_four (n : Nat) : arr4 (four n) = .agg #[.int .u8 ((n : Int) % 256), .int .u8 ((n : Int) / 256 % 256), .int .u8 ((n : Int) / 65536 % 256), .int .u8 ((n : Int) / 16777216 % 256)] := by
  have e : ∀ k : Nat, B8 (UInt8.ofNat k) = .int .u8 ((k : Int) % 256) := fun k => by
    unfold B8; congr 1
  simp only [arr4, four, b8s, List.map_cons, List.map_nil, e]
  congr 1

set_option maxRecDepth 100000 in
set_option maxHeartbeats 1000000 in
theorem frameFour (n : Nat) (hn : U32 n) (w : World) :
    Calls Tryd.prog 82 #[.int .u32 (n : Int)] w fun e w' => e = .returned (arr4 (four n)) ∧ Upd [] [] w w' := by
  rw [arr4_four]
  go_enter Tryd.func82, Tryd.ntmps82
  repeat' ((fail_if_success (with_reducible refine stop_append rfl ?_)); (fail_if_success (with_reducible refine stop_copy rfl ?_)); first | go_values | go_skip | go_guarded | go_step | go_upon | (simp only []; go_at_K))
  exact bodyPost_ret (v := .agg #[.int .u8 ((n : Int) % 256), .int .u8 ((n : Int) / 256 % 256), .int .u8 ((n : Int) / 65536 % 256), .int .u8 ((n : Int) / 16777216 % 256)]) (by simp [results, Tryd.results82, go_sem]) rfl ⟨rfl, (Upd.refl _ _).alloc _⟩

set_option maxRecDepth 100000 in
set_option maxHeartbeats 1000000 in
theorem frameSum (z0 z1 z2 z3 : UInt8) (w : World) (A : Option Addr) (n c : Nat) (b : List UInt8) (hr : RdB w A n b) (hb : b.length ≤ 140737488355328) :
    Calls Tryd.prog 83 #[arr4 [z0, z1, z2, z3], .slice A n c] w fun e w' => e = .returned (arr4 (four (fsum [z0, z1, z2, z3] b))) ∧ Upd [] [] w w' := by
  obtain ⟨s, hs⟩ : ∃ s, more 0 [z0, z1, z2, z3] = s := ⟨_, rfl⟩
  have hU : U32 s := by rw [← hs]; exact more_U32 U32.zero _
  have HF : Hid (fsum [z0, z1, z2, z3] b = more s b) := by unfold Hid fsum; rw [hs]
  have HS := Lib.hid hs; clear hs
  rw [show arr4 [z0, z1, z2, z3] = .agg #[B8 z0, B8 z1, B8 z2, B8 z3] from rfl]
  go_enter Tryd.func83, Tryd.ntmps83
  repeat' ((fail_if_success (with_reducible refine stop_append rfl ?_)); (fail_if_success (with_reducible refine stop_copy rfl ?_)); first | go_values | go_skip | go_guarded | go_step | go_upon | (simp only []; go_at_K))
  have hz : RdB ((w.alloc (.cells #[B8 z0, B8 z1, B8 z2, B8 z3] 166)).alloc (.cells #[.int .u8 0, .int .u8 0, .int .u8 0, .int .u8 0] 166)) (some ⟨w.heap.size, 0, none⟩) 4 [z0, z1, z2, z3] :=
    Rd.blk (cs := [B8 z0, B8 z1, B8 z2, B8 z3]) ((Blk.new _ _ _).alloc _) rfl
  refine (crcSum _ _ 4 4 _ hz (by simp)).mono ?_
  rintro e w1 ⟨rfl, hu1⟩
  rw [HS.out]
  have U1 : Upd [] [] w w1 := (((Upd.refl [] w).alloc _).alloc _).trans hu1
  have hT1 := (Blk.new (w.alloc (.cells #[B8 z0, B8 z1, B8 z2, B8 z3] 166)) 166 #[.int .u8 0, .int .u8 0, .int .u8 0, .int .u8 0]).upd hu1 (by simp)
  rw [World.size_alloc] at hT1
  clear hu1 hz
  repeat' ((fail_if_success (with_reducible refine stop_append rfl ?_)); (fail_if_success (with_reducible refine stop_copy rfl ?_)); first | go_values | go_skip | go_guarded | go_step | go_upon | (simp only []; go_at_K))
  refine (crcMore s hU w1 A n c b (hr.upd U1 (by simp)) hb).mono ?_
  rintro e w2 ⟨rfl, hu2⟩
  have hU2 := more_U32 hU b
  rw [← HF.out] at hU2 ⊢
  obtain ⟨x, hx⟩ : ∃ x, fsum [z0, z1, z2, z3] b = x := ⟨_, rfl⟩
  rw [hx] at hU2 ⊢
  have HX := Lib.hid hx; clear hx
  repeat' ((fail_if_success (with_reducible refine stop_append rfl ?_)); (fail_if_success (with_reducible refine stop_copy rfl ?_)); first | go_values | go_skip | go_guarded | go_step | go_upon | (simp only []; go_at_K))
  refine (frameFour x hU2 w2).mono ?_
  rintro e w3 ⟨rfl, hu3⟩
  have U3 := (U1.trans hu2).trans hu3
  have hT3 := hT1.upd (hu2.trans hu3) (by simp)
  have hlt := hT3.lt
  obtain ⟨⟨t0, t1, t2, t3⟩, f0, f1, f2, f3⟩ := hT3.c4
  rw [arr4_four]
  repeat' ((fail_if_success (with_reducible refine stop_append rfl ?_)); (fail_if_success (with_reducible refine stop_copy rfl ?_)); first | go_values | go_skip | go_guarded | go_step | go_upon | (simp only []; go_at_K))
  have N := rowSet [.int .u8 ((x : Int) % 256), .int .u8 ((x : Int) / 256 % 256), .int .u8 ((x : Int) / 65536 % 256), .int .u8 ((x : Int) / 16777216 % 256)] hT3 rfl U3 (.inr (by omega))
  simp only [setRow] at N
  generalize World.setCell _ ⟨w.heap.size + 1, 3, none⟩ _ = W4 at N ⊢
  obtain ⟨hN, hU4⟩ := N
  obtain ⟨⟨q0, q1, q2, q3⟩, -⟩ := hN.c4
  exact bodyPost_ret (v := .agg #[.int .u8 ((x : Int) % 256), .int .u8 ((x : Int) / 256 % 256), .int .u8 ((x : Int) / 65536 % 256), .int .u8 ((x : Int) / 16777216 % 256)]) (by simp [results, Tryd.results83, go_sem, q0, q1, q2, q3]) rfl ⟨by rw [HX.out, arr4_four], hU4⟩
end Go.Proofs.YtdmkhmejpgjioaaDoor
