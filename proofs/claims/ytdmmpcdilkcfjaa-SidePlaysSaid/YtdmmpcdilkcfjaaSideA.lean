/- A side: Drop. -/
import Derived.Test.YtdmmpcdilkcfjaaSide9
namespace Go.Proofs.Ytdmmpcdilkcfjaa
open Go.RowKit Agio Go.Maps

section
variable (w : World) (g bo br : Nat) (s : Int) (R : List Rw) (L : List Ord) (h : SideS w g s bo br R L) (id : Int)
include h
set_option maxRecDepth 100000 in
set_option maxHeartbeats 2000000 in
theorem sideDrop_none (hw : (Lit.int .i64 id).wf = true) (hf : findO id L = none) : Calls Try.prog 13 #[.pointer (some ⟨g, 0, none⟩), .int .i64 id] w fun e w' => e = .returned (.tuple #[ordZ, .bool false]) ∧ Upd [] [] w w' := by
  have U0 : Upd [] [] w (w.alloc (.cells #[.int .i64 0, .int .i64 0, .int .i64 0, .int .i64 0, .int .i64 0, .bool false, .int .i64 0] 32)) := (Upd.refl _ _).alloc _
  have hB0 := Blk.new w 32 #[.int .i64 0, .int .i64 0, .int .i64 0, .int .i64 0, .int .i64 0, .bool false, .int .i64 0]
  obtain ⟨b4, hb4⟩ : ∃ b4, w.heap.size = b4 := ⟨_, rfl⟩
  have hlt : w.heap.size ≤ b4 := by omega
  have h0 := h.upd0 U0
  have C := sideGet _ g bo br s L h0.blk h0.ords id hw
  rw [getO, hf] at C
  simp only [Option.getD_none, ord0_val, ordZ, Option.isSome_none] at C
  rw [hb4] at hB0
  clear h hf h0
  rw [ordZ]
  go_enter Try.func13, Try.ntmps13
  repeat' ((fail_if_success (with_reducible refine stop_append rfl ?_)); (fail_if_success (with_reducible refine stop_copy rfl ?_)); first | go_values | go_skip | go_guarded | go_step | go_upon | (simp only []; go_at_K))
  ((with_reducible refine C.mono ?_); rintro e w1 ⟨rfl, hu1⟩)
  clear C
  have hB1 := (hB0.upd hu1 (by simp)).alloc (.cells #[.int .i64 0, .int .i64 0, .int .i64 0, .int .i64 0, .int .i64 0, .bool false, .int .i64 0] 32)
  have U2 : Upd [] [] w (w1.alloc (.cells #[.int .i64 0, .int .i64 0, .int .i64 0, .int .i64 0, .int .i64 0, .bool false, .int .i64 0] 32)) := (U0.trans hu1).alloc _
  obtain ⟨⟨p0, p1, p2, p3, p4, p5, p6⟩, f0, f1, f2, f3, f4, f5, f6⟩ := hB1.c7
  obtain ⟨⟨p0', p1', p2', p3', p4', p5', p6'⟩, f0', f1', f2', f3', f4', f5', f6'⟩ := (hB0.upd hu1 (by simp)).c7
  repeat' ((fail_if_success (with_reducible refine stop_append rfl ?_)); (fail_if_success (with_reducible refine stop_copy rfl ?_)); first | go_values | go_skip | go_guarded | go_step | go_upon | (simp only []; go_at_K))
  have N := rowSet [.int .i64 0, .int .i64 0, .int .i64 0, .int .i64 0, .int .i64 0, .bool false, .int .i64 0] hB1 rfl U2 (.inr hlt)
  simp only [setRow] at N
  generalize World.setCell _ ⟨b4, 6, none⟩ _ = W5 at N ⊢
  obtain ⟨hN, hU5⟩ := N
  clear p0 p1 p2 p3 p4 p5 p6 f0 f1 f2 f3 f4 f5 f6 p0' p1' p2' p3' p4' p5' p6' f0' f1' f2' f3' f4' f5' f6' hB1
  obtain ⟨⟨p0, p1, p2, p3, p4, p5, p6⟩, -⟩ := hN.c7
  refine bodyPost_ret (v := .tuple #[.agg #[.int .i64 0, .int .i64 0, .int .i64 0, .int .i64 0, .int .i64 0, .bool false, .int .i64 0], .bool false]) ?_ rfl ⟨rfl, hU5⟩
  simp [results, Try.results13, go_sem, p0, p1, p2, p3, p4, p5, p6]

/-- What Drop tells of an order that was there. -/
def Drop20 (w : World) (g bo br : Nat) (s : Int) (R : List Rw) (L : List Ord) (o : Ord) (e : Ending) (w' : World) : Prop :=
  ∃ R', e = .returned (.tuple #[o.val, .bool true]) ∧ SideS w' g s bo br R' (dropO o.id L) ∧ Upd (fpS g bo br R) (fpS g bo br R') w w'
set_option maxRecDepth 100000 in
set_option maxHeartbeats 4000000 in
theorem sideDrop (hw : (Lit.int .i64 id).wf = true) (o : Ord) (hf : findO id L = some o) : Calls Try.prog 13 #[.pointer (some ⟨g, 0, none⟩), .int .i64 id] w (Drop20 w g bo br s R L o) := by
  have U0 : Upd [] [] w (w.alloc (.cells #[.int .i64 0, .int .i64 0, .int .i64 0, .int .i64 0, .int .i64 0, .bool false, .int .i64 0] 32)) := (Upd.refl _ _).alloc _
  have hB0 := Blk.new w 32 #[.int .i64 0, .int .i64 0, .int .i64 0, .int .i64 0, .int .i64 0, .bool false, .int .i64 0]
  obtain ⟨b4, hb4⟩ : ∃ b4, w.heap.size = b4 := ⟨_, rfl⟩
  have hlt : w.heap.size ≤ b4 := by omega
  have h0 := h.upd0 U0
  have C := sideGet _ g bo br s L h0.blk h0.ords id hw
  rw [getO, hf] at C
  simp only [Option.getD_some, Option.isSome_some, Ord.val] at C
  rw [hb4] at hB0
  obtain ⟨hoL, hid⟩ := findO_some hf
  obtain ⟨r, hr, hrp, hrr⟩ := h.rowOf hoL
  have hmay := h.sd.may o hoL
  simp only [mayO, decide_eq_true_eq] at hmay
  obtain ⟨-, -, m1, m2, -, -⟩ := hmay
  have HH := Lib.hid h
  have HO := Lib.hid hoL
  have HI := Lib.hid hid
  clear h hf hid hoL h0
  go_enter Try.func13, Try.ntmps13
  repeat' ((fail_if_success (with_reducible refine stop_append rfl ?_)); (fail_if_success (with_reducible refine stop_copy rfl ?_)); first | go_values | go_skip | go_guarded | go_step | go_upon | (simp only []; go_at_K))
  ((with_reducible refine C.mono ?_); rintro e w1 ⟨rfl, hu1⟩)
  clear C
  repeat' ((fail_if_success (with_reducible refine stop_append rfl ?_)); (fail_if_success (with_reducible refine stop_copy rfl ?_)); first | go_values | go_skip | go_guarded | go_step | go_upon | (simp only []; go_at_K))
  have U2 : Upd [] [] w (w1.alloc (.cells #[.int .i64 o.id, .int .i64 o.client, .int .i64 o.side, .int .i64 o.price, .int .i64 o.qty, .bool o.peg, .int .i64 o.off] 32)) := (U0.trans hu1).alloc _
  have hB1 := (hB0.upd hu1 (by simp)).alloc (.cells #[.int .i64 o.id, .int .i64 o.client, .int .i64 o.side, .int .i64 o.price, .int .i64 o.qty, .bool o.peg, .int .i64 o.off] 32)
  have hB := Blk.new w1 32 #[.int .i64 o.id, .int .i64 o.client, .int .i64 o.side, .int .i64 o.price, .int .i64 o.qty, .bool o.peg, .int .i64 o.off]
  have hb6w : w.heap.size ≤ w1.heap.size := (U0.trans hu1).size
  have hb46 : b4 < w1.heap.size := (hB0.upd hu1 (by simp)).lt
  generalize w1.alloc (.cells #[.int .i64 o.id, .int .i64 o.client, .int .i64 o.side, .int .i64 o.price, .int .i64 o.qty, .bool o.peg, .int .i64 o.off] 32) = W at *
  obtain ⟨b6, hb6⟩ : ∃ b6, w1.heap.size = b6 := ⟨_, rfl⟩
  rw [hb6] at hB hb6w hb46 ⊢
  have h2 := HH.out.upd0 U2
  obtain ⟨⟨q0, q1, q2⟩, -⟩ := h2.blk.c3
  obtain ⟨⟨p0, p1, p2, p3, p4, p5, p6⟩, -⟩ := hB.c7
  have hl := h2.rows.look (p := o.price) (wf64 (by omega) (by omega))
  rw [hrr] at hl
  simp only [Option.map_some, Option.getD_some, Rw.val] at hl
  go_quiet (fail)
  have h3 := h2.upd0 ((Upd.refl [] W).drewN nq)
  have U3 := U2.drewN nq
  have hB3 := hB.drewN nq
  have hB13 := hB1.drewN nq
  have hqq := (h3.each r hr).1
  rw [hrp] at hqq
  have D := queueDrop (W.drewN nq) r.g r.A r.n r.c _ hqq id (itO o) (List.mem_map.2 ⟨o, List.mem_filter.2 ⟨HO.out, by simp⟩, rfl⟩) HI.out
  clear hqq hl h2 hB hB1 p0 p1 p2 p3 p4 p5 p6 q0 q1 q2
  generalize W.drewN nq = W3 at *
  repeat' ((fail_if_success (with_reducible refine stop_append rfl ?_)); (fail_if_success (with_reducible refine stop_copy rfl ?_)); first | go_values | go_skip | go_guarded | go_step | go_upon | (simp only []; go_at_K))
  ((with_reducible refine D.mono ?_); rintro e w4 ⟨A4, m4, c4, rfl, hq4, hu4⟩)
  clear D
  have E := queueLen w4 r.g A4 m4 c4 _ hq4
  repeat' ((fail_if_success (with_reducible refine stop_append rfl ?_)); (fail_if_success (with_reducible refine stop_copy rfl ?_)); first | go_values | go_skip | go_guarded | go_step | go_upon | (simp only []; go_at_K))
  ((with_reducible refine E.mono ?_); rintro e w5 ⟨rfl, rfl⟩)
  clear E
  obtain ⟨K, hK, hKl⟩ := h3.rows
  obtain ⟨M, hM, hMl, hMk⟩ := h3.ords
  obtain ⟨n1, n2, n3⟩ := h3.rowOut hr
  have hin := SideS.fpIn (g := g) (bo := bo) (br := br) (R := R) (.inl ⟨r, hr, hrp, rfl⟩ : RowAt o.price R r.fp)
  have hb4o : b4 ∉ fpS g bo br R := fun hk => by have := HH.out.lt _ hk; omega
  have hb6o : b6 ∉ fpS g bo br R := fun hk => by have := HH.out.lt _ hk; omega
  have hb4' := h3.blk.upd hu4 n1
  have hB4 := hB3.upd hu4 (fun hm => hb6o (hin _ hm))
  have hB14 := hB13.upd hu4 (fun hm => hb4o (hin _ hm))
  have hK4 := hK.upd hu4 n3
  have hM4 := hM.upd hu4 n2
  have hgo := h3.gbo
  have hgr := h3.gbr
  have hbs := h3.bs
  have e1 : b4 ≠ bo := fun e => hb4o (by simp [fpS, e])
  have e2 : b4 ≠ br := fun e => hb4o (by simp [fpS, e])
  have e3 : b6 ≠ bo := fun e => hb6o (by simp [fpS, e])
  have e4 : b6 ≠ br := fun e => hb6o (by simp [fpS, e])
  have hl3 : b4 < W3.heap.size := hB13.lt
  have hns := h3.sd.ids
  -- the end, whichever way
  have FIN : ∀ (W6 : World) (R' : List Rw), Blk W6 b4 32 #[.int .i64 0, .int .i64 0, .int .i64 0, .int .i64 0, .int .i64 0, .bool false, .int .i64 0] → SideS W6 g s bo br R' (dropO o.id L) ∧ Upd (fpS g bo br R) (fpS g bo br R') W3 W6 →
      ∃ W7, setRow W6 b4 0 [.int .i64 o.id, .int .i64 o.client, .int .i64 o.side, .int .i64 o.price, .int .i64 o.qty, .bool o.peg, .int .i64 o.off] = W7 ∧ Blk W7 b4 32 #[.int .i64 o.id, .int .i64 o.client, .int .i64 o.side, .int .i64 o.price, .int .i64 o.qty, .bool o.peg, .int .i64 o.off] ∧ SideS W7 g s bo br R' (dropO o.id L) ∧ Upd (fpS g bo br R) (fpS g bo br R') w W7 := fun W6 R' hb6' hP => by
    have x1 := rowSet [.int .i64 o.id, .int .i64 o.client, .int .i64 o.side, .int .i64 o.price, .int .i64 o.qty, .bool o.peg, .int .i64 o.off] hb6' rfl (Upd.refl [b4] W6) (.inl (by simp))
    have x2 := rowSet [.int .i64 o.id, .int .i64 o.client, .int .i64 o.side, .int .i64 o.price, .int .i64 o.qty, .bool o.peg, .int .i64 o.off] hb6' rfl ((U3.up _).trans hP.2) (.inr hlt)
    refine ⟨_, rfl, x1.1, hP.1.upd x1.2 (fun k hk => ?_), x2.2⟩
    simp only [List.mem_singleton]
    rintro rfl
    rcases hP.2.fresh _ hk with h1 | h1
    · exact hb4o h1
    · omega
  simp only [setRow] at FIN
  clear hin n1 n2 n3 hB3 hB13
  by_cases hz : dropQ id ((atP o.price L).map itO) = []
  · -- the last one at its price
    have hlen : ((dropQ id ((atP o.price L).map itO)).length : Int) = 0 := by rw [hz]; rfl
    obtain ⟨w6, hrun6, hK6, hu6⟩ := hK4.drew.drop Try.underlying2 Try.underlying92 (x := o.price) (wf64 (by omega) (by omega)) 0
    have hu6' : Upd [br] [br] w4 w6 := (Upd.refl [br] w4).drew.trans hu6
    have hM6 := hM4.upd hu6' (by simpa using hbs)
    have hb6' := hb4'.upd hu6' (by simpa using hgr)
    have hB6 := hB4.upd hu6' (by simpa using e4)
    have hB16 := hB14.upd hu6' (by simpa using e2)
    obtain ⟨w7, hrun7, hM7, hu7⟩ := hM6.drop Try.underlying2 Try.underlying91 (x := id) hw 0
    have hB7 := hB6.upd hu7 (by simpa using e3)
    have hB17 := hB16.upd hu7 (by simpa using e1)
    have P := h3.dropLast (o := o) HO.out hr hrp hu4 (by rw [HI.out]; exact hz) (RowM.del_ hK6 hKl) hu6' (by rw [HI.out]; exact OrdM.drop_ hM7 hMk hns) hu7
    obtain ⟨W8, hW8, hB8, hS8, hU8⟩ := FIN w7 _ hB17 P
    have HP := Lib.hid (And.intro hS8 hU8)
    obtain ⟨⟨q0, q1, q2⟩, -⟩ := hb4'.c3
    obtain ⟨⟨p0, p1, p2, p3, p4, p5, p6⟩, -⟩ := hB4.c7
    obtain ⟨⟨q0', q1', q2'⟩, -⟩ := hb6'.c3
    obtain ⟨⟨r0, r1, r2, r3, r4, r5, r6⟩, -⟩ := hB7.c7
    obtain ⟨⟨s0, s1, s2, s3, s4, s5, s6⟩, g0, g1, g2, g3, g4, g5, g6⟩ := hB17.c7
    obtain ⟨⟨t0, t1, t2, t3, t4, t5, t6⟩, -⟩ := hB8.c7
    clear FIN P hS8 hU8 hB8 hB7 hB17 hB6 hB16 hb6' hM7 hM6 hu7 hu6' hu6 hK6 hu4 hK4 hM4 hq4 hz hK hM hB4 hB14 hb4'
    repeat' ((fail_if_success (with_reducible refine stop_append rfl ?_)); (fail_if_success (with_reducible refine stop_copy rfl ?_)); first | go_values | go_skip | go_guarded | go_step | go_upon | (simp only []; go_at_K))
    go_region_law (refine step_delI rfl (.tmp 34) (.tmp 36) 92 2 rfl (.map (some br)) (.int .i64 o.price) (.tuple #[]) w6 rfl rfl hrun6 ?_)
    all_goals (repeat' ((fail_if_success (with_reducible refine stop_append rfl ?_)); (fail_if_success (with_reducible refine stop_copy rfl ?_)); first | go_values | go_skip | go_guarded | go_step | go_upon | (simp only []; go_at_K)))
    all_goals
      refine bodyPost_ret (v := .tuple #[.agg #[.int .i64 o.id, .int .i64 o.client, .int .i64 o.side, .int .i64 o.price, .int .i64 o.qty, .bool o.peg, .int .i64 o.off], .bool true]) ?_ rfl ?_
      · simp [results, Try.results13, go_sem, t0, t1, t2, t3, t4, t5, t6]
      · exact ⟨_, rfl, HP.out.1, HP.out.2⟩
  · have hlen : (((dropQ id ((atP o.price L).map itO)).length : Int) == 0) = false := by
      apply beq_false_of_ne
      have : 0 < (dropQ id ((atP o.price L).map itO)).length := List.length_pos_iff.2 hz
      omega
    obtain ⟨w7, hrun7, hM7, hu7⟩ := hM4.drop Try.underlying2 Try.underlying91 (x := id) hw 0
    have hB7 := hB4.upd hu7 (by simpa using e3)
    have hB17 := hB14.upd hu7 (by simpa using e1)
    have hK7 := hK4.upd hu7 (by simpa using hbs.symm)
    have P := h3.drop (o := o) HO.out hr hrp (r' := ⟨o.price, r.g, A4, m4, c4⟩) rfl hu4 (by rw [HI.out]; exact hq4) (by rw [HI.out]; exact hz) (RowM.same_ (r := r) hK7 hKl (by rw [hrp]; exact hrr) hrp.symm rfl) (by rw [HI.out]; exact OrdM.drop_ hM7 hMk hns) hu7
    obtain ⟨W8, hW8, hB8, hS8, hU8⟩ := FIN w7 _ hB17 P
    have HP := Lib.hid (And.intro hS8 hU8)
    obtain ⟨⟨q0, q1, q2⟩, -⟩ := hb4'.c3
    obtain ⟨⟨p0, p1, p2, p3, p4, p5, p6⟩, -⟩ := hB4.c7
    obtain ⟨⟨r0, r1, r2, r3, r4, r5, r6⟩, -⟩ := hB7.c7
    obtain ⟨⟨s0, s1, s2, s3, s4, s5, s6⟩, g0, g1, g2, g3, g4, g5, g6⟩ := hB17.c7
    obtain ⟨⟨t0, t1, t2, t3, t4, t5, t6⟩, -⟩ := hB8.c7
    clear FIN P hS8 hU8 hB8 hB7 hB17 hM7 hu7 hu4 hK4 hM4 hq4 hz hK hM hB4 hB14 hb4' hK7
    repeat' ((fail_if_success (with_reducible refine stop_append rfl ?_)); (fail_if_success (with_reducible refine stop_copy rfl ?_)); first | go_values | go_skip | go_guarded | go_step | go_upon | (simp only []; go_at_K))
    all_goals
      refine bodyPost_ret (v := .tuple #[.agg #[.int .i64 o.id, .int .i64 o.client, .int .i64 o.side, .int .i64 o.price, .int .i64 o.qty, .bool o.peg, .int .i64 o.off], .bool true]) ?_ rfl ?_
      · simp [results, Try.results13, go_sem, t0, t1, t2, t3, t4, t5, t6]
      · exact ⟨_, rfl, HP.out.1, HP.out.2⟩
end
end Go.Proofs.Ytdmmpcdilkcfjaa
