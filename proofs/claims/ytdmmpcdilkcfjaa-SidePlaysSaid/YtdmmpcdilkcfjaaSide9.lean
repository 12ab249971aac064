/- A side: Cut. -/
import Derived.Test.YtdmmpcdilkcfjaaSide8
import Derived.Test.YtdmmpcdilkcfjaaSide5
import Derived.StillTailTactics
import Derived.Deep.RegionHeld3
namespace Go.Proofs.Ytdmmpcdilkcfjaa
open Go.RowKit Agio Go.Maps

section
variable (w : World) (g bo br : Nat) (s : Int) (R : List Rw) (L : List Ord) (h : SideS w g s bo br R L) (id q : Int)
include h
set_option maxRecDepth 100000 in
set_option maxHeartbeats 2000000 in
theorem sideCut_none (hw : (Lit.int .i64 id).wf = true) (hf : findO id L = none) : Calls Try.prog 12 #[.pointer (some ⟨g, 0, none⟩), .int .i64 id, .int .i64 q] w fun e w' => e = .returned (.bool false) ∧ Upd [] [] w w' := by
  have C := sideGet w g bo br s L h.blk h.ords id hw
  rw [getO, hf] at C
  simp only [Option.getD_none, ord0_val, ordZ, Option.isSome_none] at C
  clear h hf
  go_enter Try.func12, Try.ntmps12
  repeat' ((fail_if_success (with_reducible refine stop_append rfl ?_)); (fail_if_success (with_reducible refine stop_copy rfl ?_)); first | go_values | go_skip | go_guarded | go_step | go_upon | (simp only []; go_at_K))
  ((with_reducible refine C.mono ?_); rintro e w1 ⟨rfl, hu1⟩)
  clear C
  repeat' ((fail_if_success (with_reducible refine stop_append rfl ?_)); (fail_if_success (with_reducible refine stop_copy rfl ?_)); first | go_values | go_skip | go_guarded | go_step | go_upon | (simp only []; go_at_K))
  have U2 : Upd [] [] w (w1.alloc (.cells #[.int .i64 0, .int .i64 0, .int .i64 0, .int .i64 0, .int .i64 0, .bool false, .int .i64 0] 32)) := hu1.alloc _
  go_quiet (fail)
  repeat' ((fail_if_success (with_reducible refine stop_append rfl ?_)); (fail_if_success (with_reducible refine stop_copy rfl ?_)); first | go_values | go_skip | go_guarded | go_step | go_upon | (simp only []; go_at_K))
  go_ret
  exact ⟨rfl, U2.drewN _⟩

set_option maxRecDepth 100000 in
set_option maxHeartbeats 2000000 in
theorem sideCut_no (hw : (Lit.int .i64 id).wf = true) (o : Ord) (hf : findO id L = some o) (hq : lessB q o.qty = false) : Calls Try.prog 12 #[.pointer (some ⟨g, 0, none⟩), .int .i64 id, .int .i64 q] w fun e w' => e = .returned (.bool false) ∧ Upd [] [] w w' := by
  have C := sideGet w g bo br s L h.blk h.ords id hw
  rw [getO, hf] at C
  simp only [Option.getD_some, Option.isSome_some, Ord.val] at C
  obtain ⟨hoL, hid⟩ := findO_some hf
  obtain ⟨r, hr, hrp, hrr⟩ := h.rowOf hoL
  have hmay := h.sd.may o hoL
  simp only [mayO, decide_eq_true_eq] at hmay
  obtain ⟨-, -, m1, m2, -, -⟩ := hmay
  have HH := Lib.hid h
  have HO := Lib.hid hoL
  have HI := Lib.hid hid
  have HQ := Lib.hid hq
  clear h hf hid hoL hq
  go_enter Try.func12, Try.ntmps12
  repeat' ((fail_if_success (with_reducible refine stop_append rfl ?_)); (fail_if_success (with_reducible refine stop_copy rfl ?_)); first | go_values | go_skip | go_guarded | go_step | go_upon | (simp only []; go_at_K))
  ((with_reducible refine C.mono ?_); rintro e w1 ⟨rfl, hu1⟩)
  clear C
  repeat' ((fail_if_success (with_reducible refine stop_append rfl ?_)); (fail_if_success (with_reducible refine stop_copy rfl ?_)); first | go_values | go_skip | go_guarded | go_step | go_upon | (simp only []; go_at_K))
  have U2 : Upd [] [] w (w1.alloc (.cells #[.int .i64 o.id, .int .i64 o.client, .int .i64 o.side, .int .i64 o.price, .int .i64 o.qty, .bool o.peg, .int .i64 o.off] 32)) := hu1.alloc _
  have hB := Blk.new w1 32 #[.int .i64 o.id, .int .i64 o.client, .int .i64 o.side, .int .i64 o.price, .int .i64 o.qty, .bool o.peg, .int .i64 o.off]
  generalize w1.alloc (.cells #[.int .i64 o.id, .int .i64 o.client, .int .i64 o.side, .int .i64 o.price, .int .i64 o.qty, .bool o.peg, .int .i64 o.off] 32) = W at *
  have h2 := HH.out.upd0 U2
  obtain ⟨⟨q0, q1, q2⟩, -⟩ := h2.blk.c3
  obtain ⟨⟨p0, p1, p2, p3, p4, p5, p6⟩, -⟩ := hB.c7
  have hl := h2.rows.look (p := o.price) (wf64 (by omega) (by omega)) 1
  rw [hrr] at hl
  simp only [Option.map_some, Option.getD_some, Rw.val] at hl
  have hl' : (Instr.lookup 92 (.map (some br)) (.int .i64 o.price) false).run Try.prog W.drew = .ok (.pointer (some ⟨r.g, 0, none⟩)) W.drew := hl
  have hqq := (h2.upd0 (Upd.refl [] W).drew).each r hr |>.1
  rw [hrp] at hqq
  have D := queueCut_no W.drew r.g r.A r.n r.c _ hqq id q (itO o) (List.mem_map.2 ⟨o, List.mem_filter.2 ⟨HO.out, by simp⟩, rfl⟩) HI.out HQ.out
  clear hqq hl h2 hB
  go_still_tail 12, (by kernel_rfl)
  change wpList _ _ _ _ _ W.drew
  repeat' ((fail_if_success (with_reducible refine stop_append rfl ?_)); (fail_if_success (with_reducible refine stop_copy rfl ?_)); first | go_values | go_skip | go_guarded | go_step | go_upon | (simp only []; go_at_K))
  ((with_reducible refine D.mono ?_); rintro e w3 ⟨rfl, hu3⟩)
  clear D
  repeat' ((fail_if_success (with_reducible refine stop_append rfl ?_)); (fail_if_success (with_reducible refine stop_copy rfl ?_)); first | go_values | go_skip | go_guarded | go_step | go_upon | (simp only []; go_at_K))
  go_ret
  exact ⟨rfl, U2.drew.trans hu3⟩

set_option maxRecDepth 100000 in
set_option maxHeartbeats 2000000 in
theorem sideCut (hw : (Lit.int .i64 id).wf = true) (o : Ord) (hf : findO id L = some o) (hq : lessB q o.qty = true) : Calls Try.prog 12 #[.pointer (some ⟨g, 0, none⟩), .int .i64 id, .int .i64 q] w fun e w' => e = .returned (.bool true) ∧ SideS w' g s bo br R (cutO id q L) ∧ Upd (fpS g bo br R) (fpS g bo br R) w w' := by
  have C := sideGet w g bo br s L h.blk h.ords id hw
  rw [getO, hf] at C
  simp only [Option.getD_some, Option.isSome_some, Ord.val] at C
  obtain ⟨hoL, hid⟩ := findO_some hf
  obtain ⟨r, hr, hrp, hrr⟩ := h.rowOf hoL
  have hmay := h.sd.may o hoL
  simp only [mayO, decide_eq_true_eq] at hmay
  obtain ⟨-, -, m1, m2, -, -⟩ := hmay
  have HH := Lib.hid h
  have HO := Lib.hid hoL
  have HI := Lib.hid hid
  have HQ := Lib.hid hq
  clear h hf hid hoL hq
  go_enter Try.func12, Try.ntmps12
  repeat' ((fail_if_success (with_reducible refine stop_append rfl ?_)); (fail_if_success (with_reducible refine stop_copy rfl ?_)); first | go_values | go_skip | go_guarded | go_step | go_upon | (simp only []; go_at_K))
  ((with_reducible refine C.mono ?_); rintro e w1 ⟨rfl, hu1⟩)
  clear C
  repeat' ((fail_if_success (with_reducible refine stop_append rfl ?_)); (fail_if_success (with_reducible refine stop_copy rfl ?_)); first | go_values | go_skip | go_guarded | go_step | go_upon | (simp only []; go_at_K))
  have U2 : Upd [] [] w (w1.alloc (.cells #[.int .i64 o.id, .int .i64 o.client, .int .i64 o.side, .int .i64 o.price, .int .i64 o.qty, .bool o.peg, .int .i64 o.off] 32)) := hu1.alloc _
  have hB := Blk.new w1 32 #[.int .i64 o.id, .int .i64 o.client, .int .i64 o.side, .int .i64 o.price, .int .i64 o.qty, .bool o.peg, .int .i64 o.off]
  generalize w1.alloc (.cells #[.int .i64 o.id, .int .i64 o.client, .int .i64 o.side, .int .i64 o.price, .int .i64 o.qty, .bool o.peg, .int .i64 o.off] 32) = W at *
  have h2 := HH.out.upd0 U2
  obtain ⟨⟨q0, q1, q2⟩, -⟩ := h2.blk.c3
  obtain ⟨⟨p0, p1, p2, p3, p4, p5, p6⟩, -⟩ := hB.c7
  have hl := h2.rows.look (p := o.price) (wf64 (by omega) (by omega)) 1
  rw [hrr] at hl
  simp only [Option.map_some, Option.getD_some, Rw.val] at hl
  have hl' : (Instr.lookup 92 (.map (some br)) (.int .i64 o.price) false).run Try.prog W.drew = .ok (.pointer (some ⟨r.g, 0, none⟩)) W.drew := hl
  have hqq := (h2.upd0 (Upd.refl [] W).drew).each r hr |>.1
  rw [hrp] at hqq
  have D := queueCut W.drew r.g r.A r.n r.c _ hqq id q (itO o) (List.mem_map.2 ⟨o, List.mem_filter.2 ⟨HO.out, by simp⟩, rfl⟩) HI.out HQ.out
  have h3 := h2.upd0 (Upd.refl [] W).drew
  have hB3 := hB.drew
  have hout : w1.heap.size ∉ fpS g bo br R := fun hk => by have := (HH.out.upd0 hu1).lt _ hk; omega
  clear hqq hl h2 hB
  go_still_tail 12, (by kernel_rfl)
  change wpList _ _ _ _ _ W.drew
  repeat' ((fail_if_success (with_reducible refine stop_append rfl ?_)); (fail_if_success (with_reducible refine stop_copy rfl ?_)); first | go_values | go_skip | go_guarded | go_step | go_upon | (simp only []; go_at_K))
  ((with_reducible refine D.mono ?_); rintro e w3 ⟨rfl, hq3, hu3⟩)
  obtain ⟨M, hM, hMl, hMk⟩ := h3.ords
  obtain ⟨n1, n2, n3⟩ := h3.rowOut hr
  have nb0 : w1.heap.size ∉ fpQ r.g r.A := fun hm => hout (SideS.fpIn (.inl ⟨r, hr, hrp, rfl⟩) _ hm)
  have nb1 : w1.heap.size ≠ bo := fun e => hout (by simp [fpS, e])
  have hb4 := h3.blk.upd hu3 n1
  have hB4 := hB3.upd hu3 nb0
  have hM4 := hM.upd hu3 n2
  have hq1 : 1 ≤ q ∧ q ≤ 1073741824 := by
    have := HQ.out
    have h5 := h3.sd.may o HO.out
    simp only [mayO, decide_eq_true_eq] at h5
    unfold lessB at this
    simp at this
    omega
  obtain ⟨b7, hb7⟩ : ∃ b7, w1.heap.size = b7 := ⟨_, rfl⟩
  rw [hb7] at hB4 nb0 nb1
  have hS : Upd [b7] [b7] w3 (w3.setCell ⟨b7, 4, none⟩ (.int .i64 q)) := (Upd.refl _ _).setCell (.inl (by simp)) _
  have hB5 : Blk (w3.setCell ⟨b7, 4, none⟩ (.int .i64 q)) b7 32 #[.int .i64 o.id, .int .i64 o.client, .int .i64 o.side, .int .i64 o.price, .int .i64 q, .bool o.peg, .int .i64 o.off] := by simpa using hB4.set_ 4 (.int .i64 q)
  have nbg : b7 ≠ g := fun e => hout (by rw [hb7]; simp [fpS, e])
  have hb5 := hb4.upd hS (by simpa using nbg.symm)
  have hM5 := hM4.upd hS (by simpa using nb1.symm)
  obtain ⟨w6, hrun6, hM6, hu6⟩ := hM5.drew.store Try.underlying2 Try.underlying91 (by have := h3.sd.len; unfold maxLen; omega) (x := id) hw (.agg #[.int .i64 o.id, .int .i64 o.client, .int .i64 o.side, .int .i64 o.price, .int .i64 q, .bool o.peg, .int .i64 o.off])
  have hfid : findO o.id L = some o := findO_mem h3.sd.ids HO.out
  have hb7w : w.heap.size ≤ b7 := by rw [← hb7]; exact hu1.size
  have U5 : Upd r.fp r.fp w (w3.setCell ⟨b7, 4, none⟩ (.int .i64 q)) := ((U2.drew.up r.fp).trans hu3).setCell (.inr hb7w) _
  have hq5 := hq3.upd hS (fun k hk => by simp; rintro rfl; exact nb0 hk)
  have P := HH.out.cut (o := o) HO.out hq1.1 hq1.2 hr hrp U5 (by rw [HI.out]; exact hq5) (OrdM.cut_ (o := o) (q := q) (by have := hM6; rw [← HI.out] at this; exact this) hMk hfid h3.sd.ids) ((Upd.refl [bo] _).drew.trans hu6)
  rw [HI.out] at P
  have HP := Lib.hid P
  obtain ⟨⟨p0, p1, p2, p3, p4, p5, p6⟩, f0, f1, f2, f3, f4, f5, f6⟩ := hB4.c7
  obtain ⟨⟨p0', p1', p2', p3', p4', p5', p6'⟩, -⟩ := hB5.c7
  obtain ⟨⟨q0', q1', q2'⟩, -⟩ := hb5.c3
  clear D P hq5 hq3 hM6 hM5 hM4 hM hu6 U5 hS hu3 U2 h3 hB4 hB5 hb4 hb5 hB3 hfid hq1 hu1
  repeat' ((fail_if_success (with_reducible refine stop_append rfl ?_)); (fail_if_success (with_reducible refine stop_copy rfl ?_)); first | go_values | go_skip | go_guarded | go_step | go_upon | (simp only []; go_at_K))
  go_region_law (refine step_mapI rfl (.tmp 35) (.tmp 36) (.tmp 37) 91 rfl (.map (some bo)) (.int .i64 id) (.agg #[.int .i64 o.id, .int .i64 o.client, .int .i64 o.side, .int .i64 o.price, .int .i64 q, .bool o.peg, .int .i64 o.off]) w6 rfl rfl rfl hrun6 ?_)
  all_goals (repeat' ((fail_if_success (with_reducible refine stop_append rfl ?_)); (fail_if_success (with_reducible refine stop_copy rfl ?_)); first | go_values | go_skip | go_guarded | go_step | go_upon | (simp only []; go_at_K)))
  all_goals go_ret
  all_goals exact ⟨rfl, HP.out.1, HP.out.2⟩
end
end Go.Proofs.Ytdmmpcdilkcfjaa
