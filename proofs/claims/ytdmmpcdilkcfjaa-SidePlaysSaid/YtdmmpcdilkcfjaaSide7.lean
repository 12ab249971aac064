/- A side: Put, of an order that may rest, at a price that has none. -/
import Derived.Test.YtdmmpcdilkcfjaaSide6
namespace Go.Proofs.Ytdmmpcdilkcfjaa
open Go.RowKit Agio Go.Maps

section
variable (w : World) (g bo br : Nat) (s : Int) (R : List Rw) (L : List Ord) (h : SideS w g s bo br R L) (o : Ord)
include h
set_option maxRecDepth 100000 in
set_option maxHeartbeats 4000000 in
theorem sidePut_new (hm : mayO s o = true) (hf : findO o.id L = none) (hw : (Lit.int .i64 o.id).wf = true) (hl : L.length < 256) (hr : rowR o.price R = none) :
    Calls Try.prog 14 #[.pointer (some ⟨g, 0, none⟩), o.val] w (Put20 w g bo br s R L o) := by
  have C := fun W hb => sideMay W g bo br s hb o
  rw [hm] at C
  have hmay := mayO_cases s o
  rw [hm] at hmay
  obtain ⟨hc, -⟩ | ⟨-, -, hid, hpr, hpr2, hqt, hqt2⟩ := hmay
  · cases hc
  have U : Upd [] [] w (w.alloc (.cells #[.int .i64 o.id, .int .i64 o.client, .int .i64 o.side, .int .i64 o.price, .int .i64 o.qty, .bool o.peg, .int .i64 o.off] 32)) := (Upd.refl _ _).alloc _
  have hB := Blk.new w 32 #[.int .i64 o.id, .int .i64 o.client, .int .i64 o.side, .int .i64 o.price, .int .i64 o.qty, .bool o.peg, .int .i64 o.off]
  have h0 := h.upd0 U
  rw [Ord.val] at C ⊢
  obtain ⟨⟨p0, p1, p2, p3, p4, p5, p6⟩, -⟩ := hB.c7
  obtain ⟨b0, hb0⟩ : ∃ b0, w.heap.size = b0 := ⟨_, rfl⟩
  obtain ⟨W, hW⟩ : ∃ W, w.alloc (.cells #[.int .i64 o.id, .int .i64 o.client, .int .i64 o.side, .int .i64 o.price, .int .i64 o.qty, .bool o.peg, .int .i64 o.off] 32) = W := ⟨_, rfl⟩
  rw [hW, hb0] at p0 p1 p2 p3 p4 p5 p6 hB
  rw [hW] at U h0
  have hb := h0.blk
  have hout : b0 ∉ fpS g bo br R := fun hk => by have := h.lt _ hk; omega
  have HH := Lib.hid h
  clear h
  go_enter Try.func14, Try.ntmps14
  repeat' ((fail_if_success (with_reducible refine stop_append rfl ?_)); (fail_if_success (with_reducible refine stop_copy rfl ?_)); first | go_values | go_skip | go_guarded | go_step | go_upon | (simp only []; go_at_K))
  ((with_reducible refine (C _ hb).mono ?_); rintro e w1 ⟨rfl, hu1⟩)
  clear C p0 p1 p2 p3 p4 p5 p6
  have h1 := h0.upd0 hu1
  have U1 := U.trans hu1
  have UZ : Upd [] [] w1 (w1.alloc (.cells #[.int .i64 0, .int .i64 0, .int .i64 0, .int .i64 0, .int .i64 0, .bool false, .int .i64 0] 32)) := (Upd.refl [] w1).alloc _
  have h2 := h1.upd0 UZ
  have hl1 : (Instr.lookup 91 (.map (some bo)) (.int .i64 o.id) true).run Try.prog w1.drew = .ok (.tuple #[ord0.val, .bool false]) w1.drew := by
    have := h1.ords.look hw 1
    rw [getO_val, getO, hf] at this
    exact this
  have hl2 : (Instr.lookup 91 (.map (some bo)) (.int .i64 o.id) true).run Try.prog (w1.alloc (.cells #[.int .i64 0, .int .i64 0, .int .i64 0, .int .i64 0, .int .i64 0, .bool false, .int .i64 0] 32)).drew = .ok (.tuple #[ord0.val, .bool false]) (w1.alloc (.cells #[.int .i64 0, .int .i64 0, .int .i64 0, .int .i64 0, .int .i64 0, .bool false, .int .i64 0] 32)).drew := by
    have := h2.ords.look hw 1
    rw [getO_val, getO, hf] at this
    exact this
  rw [ord0_val, ordZ] at hl1 hl2
  obtain ⟨⟨q0, q1, q2⟩, -⟩ := h1.blk.c3
  obtain ⟨⟨p0, p1, p2, p3, p4, p5, p6⟩, -⟩ := (hB.upd hu1 (by simp)).c7
  obtain ⟨⟨q0', q1', q2'⟩, -⟩ := h2.blk.c3
  obtain ⟨⟨p0', p1', p2', p3', p4', p5', p6'⟩, -⟩ := ((hB.upd hu1 (by simp)).upd UZ (by simp)).c7
  have hll := (h2.upd0 (Upd.refl [] (w1.alloc (.cells #[.int .i64 0, .int .i64 0, .int .i64 0, .int .i64 0, .int .i64 0, .bool false, .int .i64 0] 32))).drew).ords.len 3
  have hLi : (L.length : Int) < 256 := by omega
  have hB2 := (hB.upd hu1 (by simp)).upd UZ.drew (by simp)
  have h3 := h1.upd0 UZ.drew
  have U3 := U1.trans UZ.drew
  have hrl := h3.rows.look (p := o.price) (wf64 (by omega) (by omega))
  have HI := Lib.hid hid
  have HF := Lib.hid hf
  have HM := Lib.hid hm
  clear hb hB hu1 UZ U U1 hW hid hf hm h0 h1 h2
  have hrn := rowR_none hr
  rw [hr] at hrl
  simp only [Option.map_none, Option.getD_none] at hrl
  repeat' ((fail_if_success (with_reducible refine stop_append rfl ?_)); (fail_if_success (with_reducible refine stop_copy rfl ?_)); first | go_values | go_skip | go_guarded | go_step | go_upon | (simp only []; go_at_K))
  go_region
  all_goals (repeat' ((fail_if_success (with_reducible refine stop_append rfl ?_)); (fail_if_success (with_reducible refine stop_copy rfl ?_)); first | go_values | go_skip | go_guarded | go_step | go_upon | (simp only []; go_at_K)))
  all_goals
    generalize hW3 : World.drew (World.alloc w1 (.cells #[.int .i64 0, .int .i64 0, .int .i64 0, .int .i64 0, .int .i64 0, .bool false, .int .i64 0] 32)) = W3 at *
    clear hl1 hl2 q0 q1 q2 p0 p1 p2 p3 p4 p5 p6 q0' q1' q2' p0' p1' p2' p3' p4' p5' p6' hll hW3
    obtain ⟨⟨q0, q1, q2⟩, -⟩ := h3.blk.c3
    obtain ⟨⟨p0, p1, p2, p3, p4, p5, p6⟩, -⟩ := hB2.c7
    go_quiet (fail)
    obtain ⟨K, hK, hKl⟩ := h3.rows
    obtain ⟨M, hM, hMl, hMk⟩ := h3.ords
    have hKn := h3.rowsLen hK hKl
    have h4 := h3.upd0 ((Upd.refl [] W3).drewN nq)
    have hat : atP o.price L = [] := atP_none (fun x hx e => by
      obtain ⟨r, hr, hrx⟩ := h4.all x hx
      exact hrn r hr (hrx.trans e))
    repeat' ((fail_if_success (with_reducible refine stop_append rfl ?_)); (fail_if_success (with_reducible refine stop_copy rfl ?_)); first | go_values | go_skip | go_guarded | go_step | go_upon | (simp only []; go_at_K))
    ((with_reducible refine (queueNew _).mono ?_); rintro e v4 ⟨gq, rfl, hq, hv4⟩)
    have D := queuePut v4 gq none 0 0 [] hq o.id o.qty HI.out hqt hqt2 (by simp) (by decide)
    have B4' := (hB2.drewN nq).upd hv4 (by simp)
    obtain ⟨⟨q0', q1', q2'⟩, -⟩ := (h4.upd0 hv4).blk.c3
    obtain ⟨⟨p0', p1', p2', p3', p4', p5', p6'⟩, -⟩ := B4'.c7
    repeat' ((fail_if_success (with_reducible refine stop_append rfl ?_)); (fail_if_success (with_reducible refine stop_copy rfl ?_)); first | go_values | go_skip | go_guarded | go_step | go_upon | (simp only []; go_at_K))
    ((with_reducible refine D.mono ?_); rintro e w4 ⟨A4, m4, c4, rfl, hq4, hu40⟩)
    have hu4 : Upd [] (fpQ gq A4) (W3.drewN nq) w4 := hv4.trans hu40
    clear hv4 hu40 B4' q0' q1' q2' p0' p1' p2' p3' p4' p5' p6'
    have hb4 := h4.blk.upd hu4 (by simp)
    have hB4 := (hB2.drewN nq).upd hu4 (by simp)
    have hK4 := (hK.upd ((Upd.refl [] W3).drewN nq) (by simp)).upd hu4 (by simp)
    have hM4 := (hM.upd ((Upd.refl [] W3).drewN nq) (by simp)).upd hu4 (by simp)
    obtain ⟨w5, hrun5, hK5, hu5⟩ := hK4.drew.store Try.underlying2 Try.underlying92 (by unfold maxLen; omega) (x := o.price) (wf64 (by omega) (by omega)) (.pointer (some ⟨gq, 0, none⟩))
    have hu5' : Upd [br] [br] w4 w5 := (Upd.refl [br] w4).drew.trans hu5
    have hgo := h4.gbr
    have hbs := h4.bs
    have nb1 : b0 ≠ br := fun e => hout (by simp [fpS, e])
    have nb2 : b0 ≠ bo := fun e => hout (by simp [fpS, e])
    have hb5 := hb4.upd hu5' (by simpa using hgo)
    have hB5 := hB4.upd hu5' (by simpa using nb1)
    have hM5 := hM4.upd hu5' (by simpa using hbs)
    obtain ⟨w6, hrun6, hM6, hu6⟩ := hM5.drew.store Try.underlying2 Try.underlying91 (by unfold maxLen; omega) (x := o.id) hw (.agg #[.int .i64 o.id, .int .i64 o.client, .int .i64 o.side, .int .i64 o.price, .int .i64 o.qty, .bool o.peg, .int .i64 o.off])
    have hu6' : Upd [bo] [bo] w5 w6 := (Upd.refl [bo] w5).drew.trans hu6
    have P := h4.ins (o := o) HM.out HF.out hw hl (X := []) (.inr ⟨hrn, rfl⟩) (r := ⟨o.price, gq, A4, m4, c4⟩) rfl hu4 (by rw [hat]; exact hq4)
      (RowM.set_ (r := ⟨o.price, gq, A4, m4, c4⟩) hK5 hKl) hu5' (OrdM.ins_ hM6 hMl hMk HF.out) hu6'
    have HP := Lib.hid P
    clear P D q0 q1 q2 p0 p1 p2 p3 p4 p5 p6 hrl hM5 hM4 hK4 hK hM hq4 hu4 hu5 hu5' hu6 hu6' h3 h4 hB2 hM6 hK5
    obtain ⟨⟨q0, q1, q2⟩, -⟩ := hb4.c3
    obtain ⟨⟨p0, p1, p2, p3, p4, p5, p6⟩, -⟩ := hB4.c7
    obtain ⟨⟨q0', q1', q2'⟩, -⟩ := hb5.c3
    obtain ⟨⟨p0', p1', p2', p3', p4', p5', p6'⟩, -⟩ := hB5.c7
    repeat' ((fail_if_success (with_reducible refine stop_append rfl ?_)); (fail_if_success (with_reducible refine stop_copy rfl ?_)); first | go_values | go_skip | go_guarded | go_step | go_upon | (simp only []; go_at_K))
    go_region_law (refine step_mapI rfl (.tmp 52) (.tmp 54) (.tmp 55) 92 rfl (.map (some br)) (.int .i64 o.price) (.pointer (some ⟨gq, 0, none⟩)) w5 rfl rfl rfl hrun5 ?_)
    all_goals (repeat' ((fail_if_success (with_reducible refine stop_append rfl ?_)); (fail_if_success (with_reducible refine stop_copy rfl ?_)); first | go_values | go_skip | go_guarded | go_step | go_upon | (simp only []; go_at_K)))
    all_goals go_region_law (refine step_mapI rfl (.tmp 59) (.tmp 61) (.tmp 62) 91 rfl (.map (some bo)) (.int .i64 o.id) (.agg #[.int .i64 o.id, .int .i64 o.client, .int .i64 o.side, .int .i64 o.price, .int .i64 o.qty, .bool o.peg, .int .i64 o.off]) w6 rfl rfl rfl hrun6 ?_)
    all_goals (repeat' ((fail_if_success (with_reducible refine stop_append rfl ?_)); (fail_if_success (with_reducible refine stop_copy rfl ?_)); first | go_values | go_skip | go_guarded | go_step | go_upon | (simp only []; go_at_K)))
    all_goals go_ret
    all_goals exact ⟨_, rfl, HP.out.1, (U3.drewN nq |>.up (fpS g bo br R)).trans HP.out.2⟩

theorem sidePut (hm : mayO s o = true) (hf : findO o.id L = none) (hw : (Lit.int .i64 o.id).wf = true) (hl : L.length < 256) :
    Calls Try.prog 14 #[.pointer (some ⟨g, 0, none⟩), o.val] w (Put20 w g bo br s R L o) := by
  cases hr : rowR o.price R with
  | none => exact sidePut_new w g bo br s R L h o hm hf hw hl hr
  | some r => exact sidePut_old w g bo br s R L h o hm hf hw hl r hr
end
end Go.Proofs.Ytdmmpcdilkcfjaa
