/- Records: (agio/alog).Read. -/
import Derived.Test.YtdmkhmejpgjioaaDoorAlog6
import Derived.Shelf.Abstract
set_option linter.all false
namespace Go.Proofs.YtdmkhmejpgjioaaDoor
open Go.RowKit Agio
attribute [local go_sem] Oper.semAt_some

theorem infoRec : (Tryd.prog.info? 44).map (fun i => (i.zero, i.size, i.bytes)) = some (some (.agg #[.int .i64 0, .int .i64 0, .int .i64 0, .int .i64 0, .slice none 0 0]), 5, 56) := by kernel_rfl
theorem alogRecords (w : World) (A : Option Addr) (n c : Nat) :
    Calls Tryd.prog 78 #[.slice A n c] w fun e w' => ∃ g, e = .returned (.func (.func 98) #[] #[.pointer (some ⟨g, 0, none⟩)]) ∧ Blk w' g 24 #[.slice A n c] ∧ Upd [] [] w w' := by
  go_enter Tryd.func78, Tryd.ntmps78
  repeat' ((fail_if_success (with_reducible refine stop_append rfl ?_)); (fail_if_success (with_reducible refine stop_copy rfl ?_)); first | go_values | go_skip | go_guarded | go_step | go_upon | (simp only []; go_at_K))
  go_ret
  exact ⟨_, rfl, Blk.new _ _ _, (Upd.refl _ _).alloc _⟩

/-- A row of records of the call's own. -/
structure OwnR (w : World) (A : Option Addr) (k c : Nat) (l : List Rv) : Prop where
  len : k = l.length
  own : Agio.Own 44 5 w A k c (l.flatMap Rv.cells)
  each : ∀ x ∈ l, OwnB 5 w x.A x.n x.c x.b
theorem OwnR.upd {w w' : World} {A : Option Addr} {k c : Nat} {l : List Rv} {a b : List Nat} (h : OwnR w A k c l) (hu : Upd a b w w') (hd : ∀ j ∈ ablk A, j ∉ a) (he : ∀ x ∈ l, ∀ j ∈ ablk x.A, j ∉ a) : OwnR w' A k c l :=
  ⟨h.len, h.own.upd hu hd, fun x hx => (h.each x hx).upd hu (he x hx)⟩
theorem OwnR.upd0 {w w' : World} {A : Option Addr} {k c : Nat} {l : List Rv} {b : List Nat} (h : OwnR w A k c l) (hu : Upd [] b w w') : OwnR w' A k c l := h.upd hu (by simp) (by simp)
theorem OwnR.rvs {w : World} {A : Option Addr} {k c : Nat} {l : List Rv} (h : OwnR w A k c l) : Rvs w A k l := ⟨⟨h.len, h.own.rd⟩, fun x hx => (h.each x hx).rd⟩
/-- A block that bears no cells is none of a row's. -/
theorem own_not_obj {e : TypeId} {size : Nat} {w : World} {A : Option Addr} {n c : Nat} {xs : List Value} (h : Agio.Own e size w A n c xs) {g : Nat} {o : Obj} (hg : w.heap[g]? = some o) (ho : o.isCells = false) : g ∉ ablk A := by
  intro hm
  rcases h.2 with ⟨hv, _⟩ | ⟨g', cap, cur, hv, _, hh, _⟩
  · injection hv with hA; subst hA; simp [ablk] at hm
  · injection hv with hA; subst hA
    have : g = g' := by simpa [ablk] using hm
    subst this
    rw [hh] at hg
    injection hg with hg
    subst hg
    cases ho
theorem upd_putObj (w : World) (l : Nat) (o : Obj) : Upd [l] [l] w (w.putObj l o) := (Upd.refl [l] w).grown (grownBy_putObj' w l o) (fun k e => by cases e; exact .inl (by simp))

theorem layB_ge (l : List Rc) : 8 * l.length ≤ (layB l).length := by
  induction l with
  | nil => simp
  | cons r l ih => rw [layB_cons, List.length_append, put_len, List.length_cons]; omega
/-- What stands between two rounds of Read's loop: its list, its sum, the loop's record, the block for deferred calls. -/
structure RJ (Bl Bs L D : Nat) (o : Obj) (pre : List Rv) (fp : List Nat) (W : World) : Prop where
  row : ∃ A k c, fp = Bl :: Bs :: L :: ablk A ∧ Blk W Bl 93 #[.slice A k c] ∧ OwnR W A k c pre
  sum : Blk W Bs 3 #[.int .i64 ((layB (rcs pre)).length : Int)]
  loop : W.heap[L]? = some o
  def_ : W.heap[D]? = some (.deferred (some []))
theorem RJ.still {Bl Bs L D : Nat} {o : Obj} {pre : List Rv} {fp : List Nat} {W W' : World} {b : List Nat} (h : RJ Bl Bs L D o pre fp W) (hu : Upd [] b W W') : RJ Bl Bs L D o pre fp W' := by
  obtain ⟨⟨A, k, c, e, h1, h2⟩, h3, h4, h5⟩ := h
  exact ⟨⟨A, k, c, e, h1.upd hu (by simp), h2.upd0 hu⟩, h3.upd hu (by simp), (hu.block L (Array.getElem?_eq_some_iff.1 h4).1 (by simp)).trans h4, (hu.block D (Array.getElem?_eq_some_iff.1 h5).1 (by simp)).trans h5⟩
theorem RJ.alien {Bl Bs L D : Nat} {o : Obj} {pre : List Rv} {fp : List Nat} {W : World} (ho : o.isCells = false) (h : RJ Bl Bs L D o pre fp W) : Foreign W fp := by
  obtain ⟨⟨A, k, c, e, h1, h2⟩, h3, h4, h5⟩ := h
  subst e
  intro j hj cs
  have key : ∀ {o' : Obj}, W.heap[j]? = some o' → (∀ cs, o' ≠ .cells cs 5 (0, 0) ∧ o' ≠ .cells cs 24 (0, 0)) → W.heap[j]? ≠ some (.cells cs 5 (0, 0)) ∧ W.heap[j]? ≠ some (.cells cs 24 (0, 0)) := by
    intro o' h1 h2
    rw [h1]
    exact ⟨fun e => (h2 cs).1 (by injection e), fun e => (h2 cs).2 (by injection e)⟩
  simp only [List.mem_cons] at hj
  rcases hj with rfl | rfl | rfl | hj
  · exact key h1 (fun cs => ⟨fun e => by injection e with _ e; revert e; decide, fun e => by injection e with _ e; revert e; decide⟩)
  · exact key h3 (fun cs => ⟨fun e => by injection e with _ e; revert e; decide, fun e => by injection e with _ e; revert e; decide⟩)
  · exact key h4 (fun cs => ⟨fun e => (by rw [e] at ho; cases ho), fun e => (by rw [e] at ho; cases ho)⟩)
  · rcases h2.own.2 with ⟨hv, _⟩ | ⟨g', cap, cur, hv, _, hh, _⟩
    · injection hv with hA; subst hA; simp [ablk] at hj
    · injection hv with hA; subst hA
      obtain rfl : j = g' := by simpa [ablk] using hj
      exact key hh (fun cs => ⟨fun e => by injection e with _ e; revert e; decide, fun e => by injection e with _ e; revert e; decide⟩)

set_option maxRecDepth 100000 in
set_option maxHeartbeats 2000000 in
theorem alogRead_all (w : World) (A : Option Addr) (n c : Nat) (b : List UInt8) (hr : RdB w A n b) (hc : n ≤ c) (hcm : c ≤ maxLen) (hb : b.length ≤ 1099511627776) :
    Calls Tryd.prog 43 #[.slice A n c] w fun e w' => ∃ A1 k1 c1 xs, e = .returned (.tuple #[.slice A1 k1 c1, .int .i64 (((readB b).2 : Nat) : Int)]) ∧ rcs xs = (readB b).1 ∧ OwnR w' A1 k1 c1 xs ∧ Upd [] (ablk A1) w w' := by
  refine (callsIn_wide (n := 3)).1 ?_
  refine callsIn_of_wp_marks Tryd.func43 rfl trivial ?_ rfl
  simp only [Tryd.ntmps43, List.size_toArray, List.length_cons, List.length_nil, Nat.reduceAdd, Nat.reduceSub, Array.replicate_succ, Array.replicate_zero, List.push_toArray, List.append_toArray, List.nil_append, List.cons_append]
  repeat' ((fail_if_success (with_reducible refine istop_append rfl ?_)); first | go_values | gi_guarded | gi_step | gi_upon | (simp only []; go_at_K))
  refine ⟨trivial, (callsIn_wide.2 (alogRecords _ A n c)).mono ?_⟩
  have hBl0 : Blk ((w.alloc (.cells #[.slice none 0 0] 93)).alloc (.cells #[.int .i64 0] 3)) w.heap.size 93 #[.slice none 0 0] := (Blk.new w _ _).alloc _
  have hBs0 : Blk ((w.alloc (.cells #[.slice none 0 0] 93)).alloc (.cells #[.int .i64 0] 3)) (w.heap.size + 1) 3 #[.int .i64 0] := by
    have := Blk.new (w.alloc (.cells #[.slice none 0 0] 93)) 3 #[.int .i64 0]
    rwa [World.size_alloc] at this
  have hU0 : Upd [] [] w ((w.alloc (.cells #[.slice none 0 0] 93)).alloc (.cells #[.int .i64 0] 3)) := ((Upd.refl [] w).alloc _).alloc _
  have hr0 : RdB ((w.alloc (.cells #[.slice none 0 0] 93)).alloc (.cells #[.int .i64 0] 3)) A n b := (hr.alloc _).alloc _
  generalize (w.alloc (.cells #[.slice none 0 0] 93)).alloc (.cells #[.int .i64 0] 3) = w0 at *
  rintro e w1 ⟨g, rfl, hBb, hu1⟩
  have hBl := hBl0.upd hu1 (by simp)
  have hBs := hBs0.upd hu1 (by simp)
  have hr1 := hr0.upd hu1 (by simp)
  have hU1 := hU0.trans hu1
  clear hBl0 hBs0 hr0 hU0 hu1
  repeat' ((fail_if_success (with_reducible refine istop_append rfl ?_)); first | go_values | gi_guarded | gi_step | gi_upon | (simp only []; go_at_K))
  refine range_whole rfl (enters_of Tryd.func98 (by kernel_rfl) rfl) fun fn => ?_
  refine (alogRecs 2 (w1.heap.size + 1) _ g 24 A n c b (hBb.alloc _ |>.alloc _) ((hr1.alloc _).alloc _) hc hcm hb (RJ w.heap.size (w.heap.size + 1) (w1.heap.size + 1) w1.heap.size (lrec fn _ _ _ _ _ .ready)) ⟨fun h hu => h.still hu, fun h => h.alien rfl, ?turn⟩ [w.heap.size, w.heap.size + 1, w1.heap.size + 1] ⟨⟨none, 0, 0, rfl, (hBl.alloc _).alloc _, ⟨rfl, Agio.Own.nil _ _ _, by simp⟩⟩, (hBs.alloc _).alloc _, alloc2_new _ _ _, alloc2_old _ _ _⟩).mono ?rest
  case turn =>
    rintro pre x fp W ⟨⟨A1, k1, c1, rfl, hL, hR⟩, hS, hl, hd⟩ hx hbd
    have hlt1 := hBl.lt
    have hlt2 := hBs.lt
    refine yield_round hl rfl ?_
    clear hU1 hr1 hBb hBl hBs hr hb hc hcm
    have hlL := (Array.getElem?_eq_some_iff.1 hl).1
    have hnA := own_not_obj hR.own hl rfl
    have hnx := own_not_obj hx.own hl rfl
    have hnE := fun y hy => own_not_obj (hR.each y hy).own hl rfl
    repeat' ((fail_if_success (with_reducible refine istop_append rfl ?_)); first | go_values | gi_guarded | gi_step | gi_upon | (simp only []; go_at_K))
    refine ⟨(Below.heap_alloc _ _ _ hlL).trans hl, ?_⟩
    generalize hW2 : World.putObj (World.alloc W _) _ _ = W2
    have hlb : W2.heap[w1.heap.size + 1]? = some _ := (congrArg (fun w : World => w.heap[w1.heap.size + 1]?) hW2).symm.trans (World.putObj_heap_same (by rw [World.size_alloc]; omega))
    have U2 : Upd [w1.heap.size + 1] [w1.heap.size + 1] W W2 := by
      rw [← hW2]; exact (((Upd.refl [] W).alloc _).up _).trans (upd_putObj _ _ _)
    have hB2 : Blk W2 W.heap.size 44 #[.int .i64 x.k, .int .i64 x.s, .int .i64 x.r, .int .i64 x.t, .slice x.A x.n x.c] := by
      rw [← hW2]; exact (Blk.new W _ _).upd (upd_putObj _ _ _) (by simp; omega)
    clear hW2
    have hL2 := hL.upd U2 (by simp; omega)
    have hS2 := hS.upd U2 (by simp; omega)
    have hR2 := hR.upd U2 (fun j hj => by simp; rintro rfl; exact hnA hj) (fun y hy j hj => by simp; rintro rfl; exact hnE y hy hj)
    have hx2 := hx.upd U2 (fun j hj => by simp; rintro rfl; exact hnx hj)
    have hd2 := (U2.block _ (Array.getElem?_eq_some_iff.1 hd).1 (by simp)).trans hd
    obtain ⟨qL, fL⟩ := hL2.c1
    obtain ⟨qS, fS⟩ := hS2.c1
    obtain ⟨⟨q0, q1, q2, q3, q4⟩, -⟩ := hB2.c5
    clear hL hR hS hl hd hx hnA hnx hnE
    repeat' ((fail_if_success (with_reducible refine istop_append rfl ?_)); first | go_values | gi_guarded | gi_step | gi_upon | (simp only []; go_at_K))
    have h8 := layB_ge (rcs (pre ++ [x]))
    have hk1 := hR2.len
    have HK := Lib.hid hk1
    have hszx : (layB (rcs (pre ++ [x]))).length = (layB (rcs pre)).length + (8 + x.rc.bytes.length) := by
      rw [rcs_append, layB_append, List.length_append]; simp [rcs, layB]
    simp only [rcs, List.length_map, List.length_append, List.length_cons, List.length_nil] at h8
    simp only [rcs] at hbd
    refine wpListIn_push rfl _ _ 93 rfl 44 Tryd.underlying93 infoRec rfl (by decide) hR2.own rfl _ rfl (news := x.cells) rfl rfl rfl (by unfold maxLen; omega) (by omega) ?_
    intro A4 c4 w4 ho4 hu4
    have hL4 := hL2.upd hu4 (hR2.own.ne hL2 (by decide))
    have hS4 := hS2.upd hu4 (hR2.own.ne hS2 (by decide))
    have hl4 := (hu4.block _ (Array.getElem?_eq_some_iff.1 hlb).1 (own_not_obj hR2.own hlb rfl)).trans hlb
    have hd4 := (hu4.block _ (Array.getElem?_eq_some_iff.1 hd2).1 (own_not_obj hR2.own hd2 rfl)).trans hd2
    have hR4 : OwnR w4 A4 (k1 + 1) c4 (pre ++ [x]) := ⟨by simp [hk1], by simpa using ho4, fun y hy => by
      rcases List.mem_append.1 hy with hy | hy
      · exact (hR2.each y hy).upd hu4 ((hR2.each y hy).own.disj hR2.own (by decide))
      · obtain rfl := List.mem_singleton.1 hy
        exact hx2.upd hu4 (hx2.own.disj hR2.own (by decide))⟩
    have hq4 := (hL4.set_ 0 (.slice A4 (k1 + 1) c4)).c1
    clear qL fL qS fS q0 q1 q2 q3 q4 hlb hd2 hL2 hk1 hS2 hx2 hR2 hB2
    obtain ⟨qL, fL⟩ := hL4.c1
    obtain ⟨qS, fS⟩ := hS4.c1
    repeat' ((fail_if_success (with_reducible refine istop_append rfl ?_)); first | go_values | gi_guarded | gi_step | gi_upon | (simp only []; go_at_K))
    rw [show wrap64 (((layB (rcs pre)).length : Int) + (8 + (x.rc.bytes.length : Int))) = ((layB (rcs (pre ++ [x]))).length : Int) by rw [hszx]; unfold wrap64; simp only [rcs] at hszx ⊢; omega]
    have U6 : Upd [w.heap.size, w.heap.size + 1] [w.heap.size, w.heap.size + 1] w4 ((w4.setCell ⟨w.heap.size, 0, none⟩ (.slice A4 (k1 + 1) c4)).setCell ⟨w.heap.size + 1, 0, none⟩ (.int .i64 ((layB (rcs (pre ++ [x]))).length : Int))) :=
      ((Upd.refl _ _).setCell (.inl (by simp)) _).setCell (.inl (by simp)) _
    have hL6 : Blk ((w4.setCell ⟨w.heap.size, 0, none⟩ (.slice A4 (k1 + 1) c4)).setCell ⟨w.heap.size + 1, 0, none⟩ (.int .i64 ((layB (rcs (pre ++ [x]))).length : Int))) w.heap.size 93 #[.slice A4 (k1 + 1) c4] := by
      simpa using (hL4.set_ 0 (.slice A4 (k1 + 1) c4)).far (p := ⟨w.heap.size + 1, 0, none⟩) (by simp) _
    have hS6 : Blk ((w4.setCell ⟨w.heap.size, 0, none⟩ (.slice A4 (k1 + 1) c4)).setCell ⟨w.heap.size + 1, 0, none⟩ (.int .i64 ((layB (rcs (pre ++ [x]))).length : Int))) (w.heap.size + 1) 3 #[.int .i64 ((layB (rcs (pre ++ [x]))).length : Int)] := by
      simpa using (hS4.far (p := ⟨w.heap.size, 0, none⟩) (by simp) _).set_ 0 (.int .i64 ((layB (rcs (pre ++ [x]))).length : Int))
    have hl6 := (U6.block _ (Array.getElem?_eq_some_iff.1 hl4).1 (by simp; omega)).trans hl4
    have hd6 := (U6.block _ (Array.getElem?_eq_some_iff.1 hd4).1 (by simp; omega)).trans hd4
    have hR6 := hR4.upd U6 (fun j hj => by
        simp only [List.mem_cons, List.not_mem_nil, or_false, not_or]
        exact ⟨by rintro rfl; exact hR4.own.ne hL4 (by decide) hj, by rintro rfl; exact hR4.own.ne hS4 (by decide) hj⟩) (fun y hy j hj => by
        simp only [List.mem_cons, List.not_mem_nil, or_false, not_or]
        exact ⟨by rintro rfl; exact (hR4.each y hy).own.ne hL4 (by decide) hj, by rintro rfl; exact (hR4.each y hy).own.ne hS4 (by decide) hj⟩)
    generalize World.setCell (World.setCell _ _ _) _ _ = W6 at *
    refine ⟨rfl, hl6, w.heap.size :: (w.heap.size + 1) :: (w1.heap.size + 1) :: ablk A4, ?_, ?_⟩
    · have nL : w.heap.size ∉ [w1.heap.size + 1] := by simp only [List.mem_singleton]; omega
      have nS : w.heap.size + 1 ∉ [w1.heap.size + 1] := by simp only [List.mem_singleton]; omega
      have nD : w1.heap.size ∉ [w1.heap.size + 1] := by simp only [List.mem_singleton]; omega
      have nR : ∀ j ∈ ablk A4, j ∉ [w1.heap.size + 1] := fun j hj h => own_not_obj hR6.own hl6 rfl (by rw [← List.mem_singleton.1 h]; exact hj)
      have nE : ∀ y ∈ pre ++ [x], ∀ j ∈ ablk y.A, j ∉ [w1.heap.size + 1] := fun y hy j hj h => own_not_obj (hR6.each y hy).own hl6 rfl (by rw [← List.mem_singleton.1 h]; exact hj)
      exact ⟨⟨A4, k1 + 1, c4, rfl, hL6.upd (upd_putObj W6 _ _) nL, hR6.upd (upd_putObj W6 _ _) nR nE⟩,
        hS6.upd (upd_putObj W6 _ _) nS, World.putObj_heap_same (Array.getElem?_eq_some_iff.1 hl6).1, ((upd_putObj W6 _ _).block _ (Array.getElem?_eq_some_iff.1 hd6).1 nD).trans hd6⟩
    · have V2 : Upd (w.heap.size :: (w.heap.size + 1) :: (w1.heap.size + 1) :: ablk A1) (w.heap.size :: (w.heap.size + 1) :: (w1.heap.size + 1) :: ablk A1) W W2 := U2.mono (fun k hk => by rw [List.mem_singleton.1 hk]; simp) (fun k hk => .inr (.inl hk))
      have V4 : Upd (w.heap.size :: (w.heap.size + 1) :: (w1.heap.size + 1) :: ablk A1) (w.heap.size :: (w.heap.size + 1) :: (w1.heap.size + 1) :: ablk A4) W2 w4 := hu4.mono (fun k hk => by simp [hk]) (fun k hk => by
        simp only [List.mem_cons] at hk ⊢
        rcases hk with hk | hk | hk | hk
        · exact .inr (.inl (.inl hk))
        · exact .inr (.inl (.inr (.inl hk)))
        · exact .inr (.inl (.inr (.inr (.inl hk))))
        · exact .inl hk)
      have V6 : Upd (w.heap.size :: (w.heap.size + 1) :: (w1.heap.size + 1) :: ablk A4) (w.heap.size :: (w.heap.size + 1) :: (w1.heap.size + 1) :: ablk A4) w4 W6 := U6.mono (fun k hk => by simp only [List.mem_cons, List.not_mem_nil, or_false] at hk ⊢; rcases hk with h | h <;> simp [h]) (fun k hk => .inr (.inl hk))
      exact ((V2.trans V4).trans V6).trans ((upd_putObj W6 (w1.heap.size + 1) _).mono (fun k hk => by rw [List.mem_singleton.1 hk]; simp) (fun k hk => .inr (.inl hk)))
  case rest =>
    rintro e w2 ⟨he, xs, fp', hxs, hRJ, hu2⟩
    obtain ⟨⟨A1, k1, c1, rfl, hL, hR⟩, hS, hl, hd⟩ := hRJ
    have hlt1 := hBl.lt
    have hlt2 := hBs.lt
    refine ⟨he, hl, ?_⟩
    clear he
    generalize hW3 : World.putObj w2 _ _ = W3
    have U3 : Upd [w1.heap.size + 1] [w1.heap.size + 1] w2 W3 := by rw [← hW3]; exact upd_putObj _ _ _
    clear hW3
    have hL3 := hL.upd U3 (by simp only [List.mem_singleton]; omega)
    have hS3 := hS.upd U3 (by simp only [List.mem_singleton]; omega)
    have hR3 := hR.upd U3 (fun j hj h => own_not_obj hR.own hl rfl (by rw [← List.mem_singleton.1 h]; exact hj)) (fun y hy j hj h => own_not_obj (hR.each y hy).own hl rfl (by rw [← List.mem_singleton.1 h]; exact hj))
    have hd3 := (U3.block _ (Array.getElem?_eq_some_iff.1 hd).1 (by simp only [List.mem_singleton]; omega)).trans hd
    have hsum : (layB (rcs xs)).length = (readB b).2 := by rw [hxs, (readB_ok b).2.1, List.length_take]; have := (readB_ok b).1; omega
    have q0 := fun N => (hL3.drewN N).cell 0
    have q1 := fun N => (hS3.drewN N).cell 0
    simp only [List.getElem?_toArray, List.getElem?_cons_zero] at q0 q1
    have U0 : Upd [] (w.heap.size :: (w.heap.size + 1) :: (w1.heap.size + 1) :: ablk A1) w w2 := (((hU1.alloc _).alloc _).gives (by simp; omega)).trans hu2
    have U2 := U0.trans (U3.mono (a' := w.heap.size :: (w.heap.size + 1) :: (w1.heap.size + 1) :: ablk A1) (b' := w.heap.size :: (w.heap.size + 1) :: (w1.heap.size + 1) :: ablk A1) (fun k hk => by rw [List.mem_singleton.1 hk]; simp) (fun k hk => .inr (.inl hk)))
    rw [hsum] at q1
    clear hL hS hR hl hd hL3 hS3 hu2 U3 U0 hBl hBs hBb hr1 hU1
    simp only [Exit.inBlock, Exit.then]
    repeat' ((fail_if_success (with_reducible refine istop_append rfl ?_)); first | go_values | gi_guarded | gi_step | gi_upon | (simp only []; go_at_K))
    refine wpIn_wide.2 ?_
    go_quiet (fail)
    repeat' ((fail_if_success (with_reducible refine istop_append rfl ?_)); first | go_values | gi_guarded | gi_step | gi_upon | (simp only []; go_at_K))
    refine ⟨by simp, .inl ⟨_, _, rfl, run_takeDeferred hd3, ?_⟩⟩
    have U4 : Upd [w1.heap.size] [w1.heap.size] W3 ((W3.drewN nq).putObj w1.heap.size (.deferred none)) := ((Upd.refl [w1.heap.size] W3).drewN nq).trans (upd_putObj _ _ _)
    have hR4 := hR3.upd U4 (fun j hj h => own_not_obj hR3.own hd3 rfl (by rw [← List.mem_singleton.1 h]; exact hj)) (fun y hy j hj h => own_not_obj (hR3.each y hy).own hd3 rfl (by rw [← List.mem_singleton.1 h]; exact hj))
    have U5 := (U2.drewN nq).grown (grownBy_putObj' (W3.drewN nq) w1.heap.size (.deferred none)) (fun k hk => by cases hk; right; omega)
    exact ⟨.tuple #[.slice A1 k1 c1, .int .i64 (((readB b).2 : Nat) : Int)], by simp [results, Tryd.results43, go_sem], A1, k1, c1, xs, rfl, hxs, hR4, U5.gives (fun k hk => U2.fresh k (by simp [hk]))⟩
end Go.Proofs.YtdmkhmejpgjioaaDoor
