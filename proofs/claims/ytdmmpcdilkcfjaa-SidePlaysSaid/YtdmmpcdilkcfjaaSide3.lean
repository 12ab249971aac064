/- A side: Get. -/
import Derived.Test.YtdmmpcdilkcfjaaSide2
namespace Go.Proofs.Ytdmmpcdilkcfjaa
open Go.RowKit Agio Go.Maps

/-- The order of a number; zero where there is none. -/
def getO (id : Int) (L : List Ord) : Ord := (findO id L).getD ord0
theorem getO_val (id : Int) (L : List Ord) : ((findO id L).map Ord.val).getD ordZ = (getO id L).val := by unfold getO; cases findO id L <;> rfl

set_option maxRecDepth 100000 in
set_option maxHeartbeats 1000000 in
theorem sideGet (w : World) (g bo br : Nat) (s : Int) (L : List Ord) (hb : Blk w g 94 #[.int .i64 s, .map (some bo), .map (some br)]) (hm : OrdM w bo L) (id : Int) (hw : (Lit.int .i64 id).wf = true) :
    Calls Try.prog 41 #[.pointer (some ⟨g, 0, none⟩), .int .i64 id] w fun e w' => e = .returned (.tuple #[(getO id L).val, .bool (findO id L).isSome]) ∧ Upd [] [] w w' := by
  have hU : Upd [] [] w (w.alloc (.cells #[.int .i64 0, .int .i64 0, .int .i64 0, .int .i64 0, .int .i64 0, .bool false, .int .i64 0] 32)) := (Upd.refl _ _).alloc _
  have hB0 := Blk.new w 32 #[.int .i64 0, .int .i64 0, .int .i64 0, .int .i64 0, .int .i64 0, .bool false, .int .i64 0]
  have hbU := hb.upd hU (by simp)
  have hl := (hm.upd hU (by simp)).look hw 0
  rw [getO_val] at hl
  generalize (findO id L).isSome = ib at *
  generalize getO id L = o at *
  obtain ⟨W, hW⟩ : ∃ W, w.alloc (.cells #[.int .i64 0, .int .i64 0, .int .i64 0, .int .i64 0, .int .i64 0, .bool false, .int .i64 0] 32) = W := ⟨_, rfl⟩
  obtain ⟨b0, hb0⟩ : ∃ b0, w.heap.size = b0 := ⟨_, rfl⟩
  have hlt : w.heap.size ≤ b0 := by omega
  rw [hW, hb0] at hB0
  rw [hW] at hU hbU hl
  obtain ⟨⟨q0, q1, q2⟩, -⟩ := hbU.c3
  have hl2 : (Instr.lookup 91 (.map (some bo)) (.int .i64 id) true).run Try.prog W = .ok (.tuple #[o.val, .bool ib]) W := hl
  rw [Ord.val] at hl2 ⊢
  clear hl hb hm
  obtain ⟨oid, client, side, price, qty, peg, off⟩ := o
  simp only at hl2 ⊢
  have hB1 := hB0.alloc (.cells #[.int .i64 oid, .int .i64 client, .int .i64 side, .int .i64 price, .int .i64 qty, .bool peg, .int .i64 off] 32)
  have hU1 := hU.alloc (.cells #[.int .i64 oid, .int .i64 client, .int .i64 side, .int .i64 price, .int .i64 qty, .bool peg, .int .i64 off] 32)
  obtain ⟨⟨p0, p1, p2, p3, p4, p5, p6⟩, f0, f1, f2, f3, f4, f5, f6⟩ := hB1.c7
  go_enter Try.func41, Try.ntmps41
  repeat' ((fail_if_success (with_reducible refine stop_append rfl ?_)); (fail_if_success (with_reducible refine stop_copy rfl ?_)); first | go_values | go_skip | go_guarded | go_step | go_upon | (simp only []; go_at_K))
  have N := rowSet [.int .i64 oid, .int .i64 client, .int .i64 side, .int .i64 price, .int .i64 qty, .bool peg, .int .i64 off] hB1 rfl hU1 (.inr hlt)
  simp only [setRow] at N
  generalize World.setCell _ ⟨b0, 6, none⟩ _ = W5 at N ⊢
  obtain ⟨hN, hU5⟩ := N
  clear p0 p1 p2 p3 p4 p5 p6 f0 f1 f2 f3 f4 f5 f6 hU hU1 hB1 hB0 hbU hl2
  obtain ⟨⟨p0, p1, p2, p3, p4, p5, p6⟩, -⟩ := hN.c7
  refine bodyPost_ret (v := .tuple #[.agg #[.int .i64 oid, .int .i64 client, .int .i64 side, .int .i64 price, .int .i64 qty, .bool peg, .int .i64 off], .bool ib]) ?_ rfl ⟨rfl, hU5⟩
  simp [results, Try.results41, go_sem, p0, p1, p2, p3, p4, p5, p6]
end Go.Proofs.Ytdmmpcdilkcfjaa
