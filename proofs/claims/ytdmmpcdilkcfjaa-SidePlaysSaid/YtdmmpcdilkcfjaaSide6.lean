/- A side: Put, of an order that may rest. -/
import Derived.Test.YtdmmpcdilkcfjaaSide5
namespace Go.Proofs.Ytdmmpcdilkcfjaa
open Go.RowKit Agio Go.Maps

/-- What Put tells of an order that rests. -/
def Put20 (w : World) (g bo br : Nat) (s : Int) (R : List Rw) (L : List Ord) (o : Ord) (e : Ending) (w' : World) : Prop :=
  ∃ R', e = .returned (.int .i64 0) ∧ SideS w' g s bo br R' (insO s o L) ∧ Upd (fpS g bo br R) (fpS g bo br R') w w'
theorem Upd.outside {a b F : List Nat} {w w' : World} (h : Upd a b w w') (hF : ∀ k ∈ b, k ∈ F ∨ w.heap.size ≤ k) (ha : ∀ k ∈ a, k ∈ F) {g : Nat} (hg : g < w.heap.size) (hn : g ∉ F) : g ∉ b := by
  intro hm
  rcases h.fresh g hm with h1 | h1
  · exact hn (ha g h1)
  · omega

section
variable (w : World) (g bo br : Nat) (s : Int) (R : List Rw) (L : List Ord) (h : SideS w g s bo br R L) (o : Ord)
include h
set_option maxRecDepth 100000 in
set_option maxHeartbeats 4000000 in
theorem sidePut_old (hm : mayO s o = true) (hf : findO o.id L = none) (hw : (Lit.int .i64 o.id).wf = true) (hl : L.length < 256) (r : Rw) (hr : rowR o.price R = some r) :
    Calls Try.prog 14 #[.pointer (some ⟨g, 0, none⟩), o.val] w (Put20 w g bo br s R L o) := by
  have C := fun W hb => sideMay W g bo br s hb o
  rw [hm] at C
  have hmay := mayO_cases s o
  rw [hm] at hmay
  obtain ⟨hc, -⟩ | ⟨-, -, hid, hpr, hpr2, hqt, hqt2⟩ := hmay
  · cases hc
  have U : Upd [] [] w (w.alloc (.cells #[.int .i64 o.id, .int .i64 o.client, .int .i64 o.side, .int .i64 o.price, .int .i64 o.qty, .bool o.peg, .int .i64 o.off] 32)) := (Upd.refl _ _).alloc _
  have hB := Blk.new w 32 #[.int .i64 o.id, .int .i64 o.client, .int .i64 o.side, .int .i64 o.price, .int .i64 o.qty, .bool o.peg, .int .i64 o.off]
  have h0 := h.upd0 U
  rw [Ord.val] at C ⊢
  obtain ⟨⟨p0, p1, p2, p3, p4, p5, p6⟩, -⟩ := hB.c7
  obtain ⟨b0, hb0⟩ : ∃ b0, w.heap.size = b0 := ⟨_, rfl⟩
  obtain ⟨W, hW⟩ : ∃ W, w.alloc (.cells #[.int .i64 o.id, .int .i64 o.client, .int .i64 o.side, .int .i64 o.price, .int .i64 o.qty, .bool o.peg, .int .i64 o.off] 32) = W := ⟨_, rfl⟩
  rw [hW, hb0] at p0 p1 p2 p3 p4 p5 p6 hB
  rw [hW] at U h0
  have hb := h0.blk
  have hout : b0 ∉ fpS g bo br R := fun hk => by have := h.lt _ hk; omega
  have HH := Lib.hid h
  clear h
  go_enter Try.func14, Try.ntmps14
  repeat' ((fail_if_success (with_reducible refine stop_append rfl ?_)); (fail_if_success (with_reducible refine stop_copy rfl ?_)); first | go_values | go_skip | go_guarded | go_step | go_upon | (simp only []; go_at_K))
  ((with_reducible refine (C _ hb).mono ?_); rintro e w1 ⟨rfl, hu1⟩)
  clear C p0 p1 p2 p3 p4 p5 p6
  have h1 := h0.upd0 hu1
  have U1 := U.trans hu1
  have UZ : Upd [] [] w1 (w1.alloc (.cells #[.int .i64 0, .int .i64 0, .int .i64 0, .int .i64 0, .int .i64 0, .bool false, .int .i64 0] 32)) := (Upd.refl [] w1).alloc _
  have h2 := h1.upd0 UZ
  have hl1 : (Instr.lookup 91 (.map (some bo)) (.int .i64 o.id) true).run Try.prog w1.drew = .ok (.tuple #[ord0.val, .bool false]) w1.drew := by
    have := h1.ords.look hw 1
    rw [getO_val, getO, hf] at this
    exact this
  have hl2 : (Instr.lookup 91 (.map (some bo)) (.int .i64 o.id) true).run Try.prog (w1.alloc (.cells #[.int .i64 0, .int .i64 0, .int .i64 0, .int .i64 0, .int .i64 0, .bool false, .int .i64 0] 32)).drew = .ok (.tuple #[ord0.val, .bool false]) (w1.alloc (.cells #[.int .i64 0, .int .i64 0, .int .i64 0, .int .i64 0, .int .i64 0, .bool false, .int .i64 0] 32)).drew := by
    have := h2.ords.look hw 1
    rw [getO_val, getO, hf] at this
    exact this
  rw [ord0_val, ordZ] at hl1 hl2
  obtain ⟨⟨q0, q1, q2⟩, -⟩ := h1.blk.c3
  obtain ⟨⟨p0, p1, p2, p3, p4, p5, p6⟩, -⟩ := (hB.upd hu1 (by simp)).c7
  obtain ⟨⟨q0', q1', q2'⟩, -⟩ := h2.blk.c3
  obtain ⟨⟨p0', p1', p2', p3', p4', p5', p6'⟩, -⟩ := ((hB.upd hu1 (by simp)).upd UZ (by simp)).c7
  have hll := (h2.upd0 (Upd.refl [] (w1.alloc (.cells #[.int .i64 0, .int .i64 0, .int .i64 0, .int .i64 0, .int .i64 0, .bool false, .int .i64 0] 32))).drew).ords.len 3
  have hLi : (L.length : Int) < 256 := by omega
  have hB2 := (hB.upd hu1 (by simp)).upd UZ.drew (by simp)
  have h3 := h1.upd0 UZ.drew
  have U3 := U1.trans UZ.drew
  have hrl := h3.rows.look (p := o.price) (wf64 (by omega) (by omega))
  have HI := Lib.hid hid
  have HF := Lib.hid hf
  have HM := Lib.hid hm
  clear hb hB hu1 UZ U U1 hW hid hf hm h0 h1 h2
  obtain ⟨hrR, hrp⟩ := rowR_some hr
  rw [hr] at hrl
  simp only [Option.map_some, Option.getD_some, Rw.val] at hrl
  repeat' ((fail_if_success (with_reducible refine stop_append rfl ?_)); (fail_if_success (with_reducible refine stop_copy rfl ?_)); first | go_values | go_skip | go_guarded | go_step | go_upon | (simp only []; go_at_K))
  go_region
  all_goals (repeat' ((fail_if_success (with_reducible refine stop_append rfl ?_)); (fail_if_success (with_reducible refine stop_copy rfl ?_)); first | go_values | go_skip | go_guarded | go_step | go_upon | (simp only []; go_at_K)))
  all_goals
    generalize hW3 : World.drew (World.alloc w1 (.cells #[.int .i64 0, .int .i64 0, .int .i64 0, .int .i64 0, .int .i64 0, .bool false, .int .i64 0] 32)) = W3 at *
    clear hl1 hl2 q0 q1 q2 p0 p1 p2 p3 p4 p5 p6 q0' q1' q2' p0' p1' p2' p3' p4' p5' p6' hll hW3
    obtain ⟨⟨q0, q1, q2⟩, -⟩ := h3.blk.c3
    obtain ⟨⟨p0, p1, p2, p3, p4, p5, p6⟩, -⟩ := hB2.c7
    go_quiet (fail)
    obtain ⟨K, hK, hKl⟩ := h3.rows
    obtain ⟨M, hM, hMl, hMk⟩ := h3.ords
    have hKn := h3.rowsLen hK hKl
    have h4 := h3.upd0 ((Upd.refl [] W3).drewN nq)
    obtain ⟨n1, n2, n3⟩ := h4.rowOut hrR
    have hq := (h4.each r hrR).1
    rw [hrp] at hq
    have hno : ∀ x ∈ (atP o.price L).map itO, x.1 ≠ o.id := fun x hx => by
      obtain ⟨y, hy, rfl⟩ := List.mem_map.1 hx
      exact findO_none HF.out y (List.mem_filter.1 hy).1
    have hll : ((atP o.price L).map itO).length < 256 := by
      have : (atP o.price L).length ≤ L.length := List.length_filter_le _ _
      simp; omega
    have D := queuePut (W3.drewN nq) r.g r.A r.n r.c _ hq o.id o.qty HI.out hqt hqt2 hno hll
    clear hno hll hq
    repeat' ((fail_if_success (with_reducible refine stop_append rfl ?_)); (fail_if_success (with_reducible refine stop_copy rfl ?_)); first | go_values | go_skip | go_guarded | go_step | go_upon | (simp only []; go_at_K))
    ((with_reducible refine D.mono ?_); rintro e w4 ⟨A4, m4, c4, rfl, hq4, hu4⟩)
    have nb0 : b0 ∉ fpQ r.g r.A := fun hm => hout (SideS.fpIn (.inl ⟨r, hrR, hrp, rfl⟩) b0 hm)
    have hb4 := h4.blk.upd hu4 n1
    have hB4 := (hB2.drewN nq).upd hu4 nb0
    have hK4 := (hK.upd ((Upd.refl [] W3).drewN nq) (by simp)).upd hu4 n3
    have hM4 := (hM.upd ((Upd.refl [] W3).drewN nq) (by simp)).upd hu4 n2
    obtain ⟨w5, hrun5, hK5, hu5⟩ := hK4.drew.store Try.underlying2 Try.underlying92 (by unfold maxLen; omega) (x := o.price) (wf64 (by omega) (by omega)) (.pointer (some ⟨r.g, 0, none⟩))
    have hu5' : Upd [br] [br] w4 w5 := (Upd.refl [br] w4).drew.trans hu5
    have hgo := h4.gbr
    have hbs := h4.bs
    have nb1 : b0 ≠ br := fun e => hout (by simp [fpS, e])
    have nb2 : b0 ≠ bo := fun e => hout (by simp [fpS, e])
    have hb5 := hb4.upd hu5' (by simpa using hgo)
    have hB5 := hB4.upd hu5' (by simpa using nb1)
    have hM5 := hM4.upd hu5' (by simpa using hbs)
    obtain ⟨w6, hrun6, hM6, hu6⟩ := hM5.drew.store Try.underlying2 Try.underlying91 (by unfold maxLen; omega) (x := o.id) hw (.agg #[.int .i64 o.id, .int .i64 o.client, .int .i64 o.side, .int .i64 o.price, .int .i64 o.qty, .bool o.peg, .int .i64 o.off])
    have hu6' : Upd [bo] [bo] w5 w6 := (Upd.refl [bo] w5).drew.trans hu6
    have P := h4.ins (o := o) HM.out HF.out hw hl (X := fpQ r.g r.A) (.inl ⟨r, hrR, hrp, rfl⟩) (r := ⟨o.price, r.g, A4, m4, c4⟩) rfl hu4 hq4
      (RowM.set_ (r := ⟨o.price, r.g, A4, m4, c4⟩) hK5 hKl) hu5' (OrdM.ins_ hM6 hMl hMk HF.out) hu6'
    have HP := Lib.hid P
    clear P D q0 q1 q2 p0 p1 p2 p3 p4 p5 p6 hrl hM5 hM4 hK4 hK hM hq4 hu4 hu5 hu5' hu6 hu6' h3 h4 hB2 hM6 hK5
    obtain ⟨⟨q0, q1, q2⟩, -⟩ := hb4.c3
    obtain ⟨⟨p0, p1, p2, p3, p4, p5, p6⟩, -⟩ := hB4.c7
    obtain ⟨⟨q0', q1', q2'⟩, -⟩ := hb5.c3
    obtain ⟨⟨p0', p1', p2', p3', p4', p5', p6'⟩, -⟩ := hB5.c7
    repeat' ((fail_if_success (with_reducible refine stop_append rfl ?_)); (fail_if_success (with_reducible refine stop_copy rfl ?_)); first | go_values | go_skip | go_guarded | go_step | go_upon | (simp only []; go_at_K))
    go_region_law (refine step_mapI rfl (.tmp 52) (.tmp 54) (.tmp 55) 92 rfl (.map (some br)) (.int .i64 o.price) (.pointer (some ⟨r.g, 0, none⟩)) w5 rfl rfl rfl hrun5 ?_)
    all_goals (repeat' ((fail_if_success (with_reducible refine stop_append rfl ?_)); (fail_if_success (with_reducible refine stop_copy rfl ?_)); first | go_values | go_skip | go_guarded | go_step | go_upon | (simp only []; go_at_K)))
    all_goals go_region_law (refine step_mapI rfl (.tmp 59) (.tmp 61) (.tmp 62) 91 rfl (.map (some bo)) (.int .i64 o.id) (.agg #[.int .i64 o.id, .int .i64 o.client, .int .i64 o.side, .int .i64 o.price, .int .i64 o.qty, .bool o.peg, .int .i64 o.off]) w6 rfl rfl rfl hrun6 ?_)
    all_goals (repeat' ((fail_if_success (with_reducible refine stop_append rfl ?_)); (fail_if_success (with_reducible refine stop_copy rfl ?_)); first | go_values | go_skip | go_guarded | go_step | go_upon | (simp only []; go_at_K)))
    all_goals go_ret
    all_goals exact ⟨_, rfl, HP.out.1, (U3.drewN nq |>.up (fpS g bo br R)).trans HP.out.2⟩
end
end Go.Proofs.Ytdmmpcdilkcfjaa
