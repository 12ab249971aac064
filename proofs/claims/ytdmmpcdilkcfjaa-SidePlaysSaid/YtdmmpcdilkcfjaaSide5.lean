/- A side: Put. -/
import Derived.Test.YtdmmpcdilkcfjaaSide4
import Derived.BigRegion
namespace Go.Proofs.Ytdmmpcdilkcfjaa
open Go.RowKit Agio Go.Maps

/-- One step of a region that draws its order: a store into a map whose run is known; a delete. -/
theorem step_mapI {P : Program} {ops : Array Oper} {o : Oper} {a : Act} {w : World} {K : Act → World → Prop} {Q : Exit → Act → World → Prop} {E : Prop}
    (hg : o.guard = none) (m x v : Operand) (t : TypeId) (hop : o.op = Op.mapUpdate t m x v) (vm vx u : Value) (w' : World) (hm : a.eval m = vm) (hx : a.eval x = vx) (hv : a.eval v = u)
    (hrun : (Instr.mapUpdate t vm vx u).run P w = .ok () w') (hK : K (a.put o.dst undef) w') :
    if Region.wanted o (yielded ops a.tmps) = true then Oper.wp P o a w K Q else E := by
  have hw : Region.wanted o (yielded ops a.tmps) = true := by simp [Region.wanted, hg]
  rw [if_pos hw]
  unfold Oper.wp
  simp [execOp, hop, hm, hx, hv, hrun, Result.andThen]
  exact hK
theorem step_delI {P : Program} {ops : Array Oper} {o : Oper} {a : Act} {w : World} {K : Act → World → Prop} {Q : Exit → Act → World → Prop} {E : Prop}
    (hg : o.guard = none) (m x : Operand) (t k : TypeId) (hop : o.op = Op.call { callee := Callee.builtin Builtin.delete, args := #[m, x], argTypes := #[t, k] }) (vm vx v : Value) (w' : World) (hm : a.eval m = vm) (hx : a.eval x = vx)
    (hrun : (Builtin.delete_ #[t, k] o.type #[vm, vx]).run P w = .ok v w') (hK : K (a.put o.dst v) w') :
    if Region.wanted o (yielded ops a.tmps) = true then Oper.wp P o a w K Q else E := by
  have hw : Region.wanted o (yielded ops a.tmps) = true := by simp [Region.wanted, hg]
  rw [if_pos hw]
  unfold Oper.wp
  simp [execOp, hop, resolve, invoke, builtin, hm, hx, hrun, Result.andThen]
  exact hK

section
variable (w : World) (g bo br : Nat) (s : Int) (R : List Rw) (L : List Ord) (h : SideS w g s bo br R L) (o : Ord)
include h
set_option maxRecDepth 100000 in
set_option maxHeartbeats 2000000 in
theorem sidePut_arg (hm : mayO s o = false) : Calls Try.prog 14 #[.pointer (some ⟨g, 0, none⟩), o.val] w fun e w' => e = .returned (.int .i64 1) ∧ Upd [] [] w w' := by
  have C := fun W hb => sideMay W g bo br s hb o
  rw [hm] at C
  have U : Upd [] [] w (w.alloc (.cells #[.int .i64 o.id, .int .i64 o.client, .int .i64 o.side, .int .i64 o.price, .int .i64 o.qty, .bool o.peg, .int .i64 o.off] 32)) := (Upd.refl _ _).alloc _
  have hb := h.blk.upd U (by simp)
  clear hm h
  rw [Ord.val] at C ⊢
  go_enter Try.func14, Try.ntmps14
  repeat' ((fail_if_success (with_reducible refine stop_append rfl ?_)); (fail_if_success (with_reducible refine stop_copy rfl ?_)); first | go_values | go_skip | go_guarded | go_step | go_upon | (simp only []; go_at_K))
  ((with_reducible refine (C _ hb).mono ?_); rintro e w1 ⟨rfl, hu1⟩)
  clear C
  repeat' ((fail_if_success (with_reducible refine stop_append rfl ?_)); (fail_if_success (with_reducible refine stop_copy rfl ?_)); first | go_values | go_skip | go_guarded | go_step | go_upon | (simp only []; go_at_K))
  go_ret
  exact ⟨rfl, U.trans hu1⟩

set_option maxRecDepth 100000 in
set_option maxHeartbeats 2000000 in
theorem sidePut_there (hm : mayO s o = true) (hf : (findO o.id L).isSome = true) (hw : (Lit.int .i64 o.id).wf = true) :
    Calls Try.prog 14 #[.pointer (some ⟨g, 0, none⟩), o.val] w fun e w' => e = .returned (.int .i64 7) ∧ Upd [] [] w w' := by
  have C := fun W hb => sideMay W g bo br s hb o
  rw [hm] at C
  have U : Upd [] [] w (w.alloc (.cells #[.int .i64 o.id, .int .i64 o.client, .int .i64 o.side, .int .i64 o.price, .int .i64 o.qty, .bool o.peg, .int .i64 o.off] 32)) := (Upd.refl _ _).alloc _
  have hb := h.blk.upd U (by simp)
  have hB := Blk.new w 32 #[.int .i64 o.id, .int .i64 o.client, .int .i64 o.side, .int .i64 o.price, .int .i64 o.qty, .bool o.peg, .int .i64 o.off]
  have hM := h.ords.upd U (by simp)
  clear hm h
  rw [Ord.val] at C ⊢
  obtain ⟨⟨p0, p1, p2, p3, p4, p5, p6⟩, -⟩ := hB.c7
  obtain ⟨b0, hb0⟩ : ∃ b0, w.heap.size = b0 := ⟨_, rfl⟩
  obtain ⟨W, hW⟩ : ∃ W, w.alloc (.cells #[.int .i64 o.id, .int .i64 o.client, .int .i64 o.side, .int .i64 o.price, .int .i64 o.qty, .bool o.peg, .int .i64 o.off] 32) = W := ⟨_, rfl⟩
  rw [hW, hb0] at p0 p1 p2 p3 p4 p5 p6 hB
  rw [hW] at U hb hM
  go_enter Try.func14, Try.ntmps14
  repeat' ((fail_if_success (with_reducible refine stop_append rfl ?_)); (fail_if_success (with_reducible refine stop_copy rfl ?_)); first | go_values | go_skip | go_guarded | go_step | go_upon | (simp only []; go_at_K))
  ((with_reducible refine (C _ hb).mono ?_); rintro e w1 ⟨rfl, hu1⟩)
  clear C p0 p1 p2 p3 p4 p5 p6
  have hl : (Instr.lookup 91 (.map (some bo)) (.int .i64 o.id) true).run Try.prog w1.drew = .ok (.tuple #[(getO o.id L).val, .bool true]) w1.drew := by
    have := (hM.upd hu1 (by simp)).look hw 1
    rw [getO_val, hf] at this
    exact this
  have hl2 : (Instr.lookup 91 (.map (some bo)) (.int .i64 o.id) true).run Try.prog (w1.alloc (.cells #[.int .i64 0, .int .i64 0, .int .i64 0, .int .i64 0, .int .i64 0, .bool false, .int .i64 0] 32)).drew = .ok (.tuple #[(getO o.id L).val, .bool true]) (w1.alloc (.cells #[.int .i64 0, .int .i64 0, .int .i64 0, .int .i64 0, .int .i64 0, .bool false, .int .i64 0] 32)).drew := by
    have := ((hM.upd hu1 (by simp)).upd ((Upd.refl [] w1).alloc (.cells #[.int .i64 0, .int .i64 0, .int .i64 0, .int .i64 0, .int .i64 0, .bool false, .int .i64 0] 32)) (by simp)).look hw 1
    rw [getO_val, hf] at this
    exact this
  rw [Ord.val] at hl hl2
  obtain ⟨⟨q0, q1, q2⟩, -⟩ := (hb.upd hu1 (by simp)).c3
  obtain ⟨⟨p0, p1, p2, p3, p4, p5, p6⟩, -⟩ := (hB.upd hu1 (by simp)).c7
  have U1 := U.trans hu1
  have UZ : Upd [] [] w1 (w1.alloc (.cells #[.int .i64 0, .int .i64 0, .int .i64 0, .int .i64 0, .int .i64 0, .bool false, .int .i64 0] 32)) := (Upd.refl [] w1).alloc _
  obtain ⟨⟨q0', q1', q2'⟩, -⟩ := ((hb.upd hu1 (by simp)).upd UZ (by simp)).c3
  obtain ⟨⟨p0', p1', p2', p3', p4', p5', p6'⟩, -⟩ := ((hB.upd hu1 (by simp)).upd UZ (by simp)).c7
  generalize getO o.id L = z at *
  clear hW hB hM hb U hu1
  repeat' ((fail_if_success (with_reducible refine stop_append rfl ?_)); (fail_if_success (with_reducible refine stop_copy rfl ?_)); first | go_values | go_skip | go_guarded | go_step | go_upon | (simp only []; go_at_K))
  go_region
  all_goals (repeat' ((fail_if_success (with_reducible refine stop_append rfl ?_)); (fail_if_success (with_reducible refine stop_copy rfl ?_)); first | go_values | go_skip | go_guarded | go_step | go_upon | (simp only []; go_at_K)))
  all_goals go_ret
  all_goals exact ⟨rfl, U1.drew.alloc _⟩

set_option maxRecDepth 100000 in
set_option maxHeartbeats 2000000 in
theorem sidePut_full (hm : mayO s o = true) (hf : findO o.id L = none) (hw : (Lit.int .i64 o.id).wf = true) (hl : 256 ≤ L.length) :
    Calls Try.prog 14 #[.pointer (some ⟨g, 0, none⟩), o.val] w fun e w' => e = .returned (.int .i64 5) ∧ Upd [] [] w w' := by
  have C := fun W hb => sideMay W g bo br s hb o
  rw [hm] at C
  have U : Upd [] [] w (w.alloc (.cells #[.int .i64 o.id, .int .i64 o.client, .int .i64 o.side, .int .i64 o.price, .int .i64 o.qty, .bool o.peg, .int .i64 o.off] 32)) := (Upd.refl _ _).alloc _
  have hb := h.blk.upd U (by simp)
  have hB := Blk.new w 32 #[.int .i64 o.id, .int .i64 o.client, .int .i64 o.side, .int .i64 o.price, .int .i64 o.qty, .bool o.peg, .int .i64 o.off]
  have hM := h.ords.upd U (by simp)
  clear hm h
  rw [Ord.val] at C ⊢
  obtain ⟨⟨p0, p1, p2, p3, p4, p5, p6⟩, -⟩ := hB.c7
  obtain ⟨b0, hb0⟩ : ∃ b0, w.heap.size = b0 := ⟨_, rfl⟩
  obtain ⟨W, hW⟩ : ∃ W, w.alloc (.cells #[.int .i64 o.id, .int .i64 o.client, .int .i64 o.side, .int .i64 o.price, .int .i64 o.qty, .bool o.peg, .int .i64 o.off] 32) = W := ⟨_, rfl⟩
  rw [hW, hb0] at p0 p1 p2 p3 p4 p5 p6 hB
  rw [hW] at U hb hM
  go_enter Try.func14, Try.ntmps14
  repeat' ((fail_if_success (with_reducible refine stop_append rfl ?_)); (fail_if_success (with_reducible refine stop_copy rfl ?_)); first | go_values | go_skip | go_guarded | go_step | go_upon | (simp only []; go_at_K))
  ((with_reducible refine (C _ hb).mono ?_); rintro e w1 ⟨rfl, hu1⟩)
  clear C p0 p1 p2 p3 p4 p5 p6
  have U1 := U.trans hu1
  have UZ : Upd [] [] w1 (w1.alloc (.cells #[.int .i64 0, .int .i64 0, .int .i64 0, .int .i64 0, .int .i64 0, .bool false, .int .i64 0] 32)) := (Upd.refl [] w1).alloc _
  have hl1 : (Instr.lookup 91 (.map (some bo)) (.int .i64 o.id) true).run Try.prog w1.drew = .ok (.tuple #[ord0.val, .bool false]) w1.drew := by
    have := (hM.upd hu1 (by simp)).look hw 1
    rw [getO_val, getO, hf] at this
    exact this
  have hl2 : (Instr.lookup 91 (.map (some bo)) (.int .i64 o.id) true).run Try.prog (w1.alloc (.cells #[.int .i64 0, .int .i64 0, .int .i64 0, .int .i64 0, .int .i64 0, .bool false, .int .i64 0] 32)).drew = .ok (.tuple #[ord0.val, .bool false]) (w1.alloc (.cells #[.int .i64 0, .int .i64 0, .int .i64 0, .int .i64 0, .int .i64 0, .bool false, .int .i64 0] 32)).drew := by
    have := ((hM.upd hu1 (by simp)).upd UZ (by simp)).look hw 1
    rw [getO_val, getO, hf] at this
    exact this
  rw [ord0_val, ordZ] at hl1 hl2
  obtain ⟨⟨q0, q1, q2⟩, -⟩ := (hb.upd hu1 (by simp)).c3
  obtain ⟨⟨p0, p1, p2, p3, p4, p5, p6⟩, -⟩ := (hB.upd hu1 (by simp)).c7
  obtain ⟨⟨q0', q1', q2'⟩, -⟩ := ((hb.upd hu1 (by simp)).upd UZ (by simp)).c3
  obtain ⟨⟨p0', p1', p2', p3', p4', p5', p6'⟩, -⟩ := ((hB.upd hu1 (by simp)).upd UZ (by simp)).c7
  have hll := (((hM.upd hu1 (by simp)).upd UZ.drew (by simp)).len 3)
  have hLi : (256 : Int) ≤ (L.length : Int) := by omega
  clear hW hB hM hb U hu1 UZ
  repeat' ((fail_if_success (with_reducible refine stop_append rfl ?_)); (fail_if_success (with_reducible refine stop_copy rfl ?_)); first | go_values | go_skip | go_guarded | go_step | go_upon | (simp only []; go_at_K))
  go_region
  all_goals (repeat' ((fail_if_success (with_reducible refine stop_append rfl ?_)); (fail_if_success (with_reducible refine stop_copy rfl ?_)); first | go_values | go_skip | go_guarded | go_step | go_upon | (simp only []; go_at_K)))
  all_goals go_ret
  all_goals exact ⟨rfl, (U1.alloc _).drew⟩
end
end Go.Proofs.Ytdmmpcdilkcfjaa
