/- A queue: Sum, List. -/
import Derived.Test.YtdmmpcdilkcfjaaQueue2
namespace Go.Proofs.Ytdmmpcdilkcfjaa
open Go.RowKit Agio
attribute [local go_sem] Oper.semAt_some

theorem sumI_snoc (l : Its) (x : Itm) : sumI (l ++ [x]) = sumI l + x.2 := by simp [sumI]
theorem sumI_bound {l : Its} (h : ∀ x ∈ l, 1 ≤ x.2 ∧ x.2 ≤ 1073741824) : 0 ≤ sumI l ∧ sumI l ≤ (l.length : Int) * 1073741824 := by
  have key : ∀ (l : Its) (n : Int), (∀ x ∈ l, 1 ≤ x.2 ∧ x.2 ≤ 1073741824) → n ≤ l.foldl (fun n x => n + x.2) n ∧ l.foldl (fun n x => n + x.2) n ≤ n + (l.length : Int) * 1073741824 := by
    intro l
    induction l with
    | nil => intro n _; simp
    | cons y r ih =>
      intro n h
      have h1 := h y (by simp)
      have h2 := ih (n + y.2) fun x hx => h x (List.mem_cons_of_mem _ hx)
      simp only [List.foldl_cons, List.length_cons]
      push_cast
      omega
  have := key l 0 h
  unfold sumI
  omega
/-- What stands between two rounds of Sum's loop. -/
structure SJ (Bs L D : Nat) (o : Obj) (v : Int) (fp : List Nat) (W : World) : Prop where
  fps : fp = [L, Bs]
  res : Blk W Bs 2 #[.int .i64 v]
  loop : W.heap[L]? = some o
  def_ : W.heap[D]? = some (.deferred (some []))
theorem SJ.still {Bs L D : Nat} {o : Obj} {v : Int} {fp b : List Nat} {W W' : World} (h : SJ Bs L D o v fp W) (hu : Upd [] b W W') : SJ Bs L D o v fp W' :=
  ⟨h.fps, h.res.upd hu (by simp), (hu.block L (Array.getElem?_eq_some_iff.1 h.loop).1 (by simp)).trans h.loop, (hu.block D (Array.getElem?_eq_some_iff.1 h.def_).1 (by simp)).trans h.def_⟩

set_option maxRecDepth 100000 in
set_option maxHeartbeats 2000000 in
theorem queueSum (w : World) (v : Value) (l : Its) (hv : QuV w v l w.heap.size) :
    Calls Try.prog 50 #[v] w fun e w' => e = .returned (.int .i64 (sumI l)) ∧ Upd [] [] w w' := by
  have hvv : v = .pointer none ∨ ∃ g, v = .pointer (some ⟨g, 0, none⟩) := by
    rcases hv with h | ⟨g, A, n, c, h, _⟩
    · exact .inl h.1
    · exact .inr ⟨g, h⟩
  have hq : (∀ x ∈ l, 1 ≤ x.2 ∧ x.2 ≤ 1073741824) ∧ l.length ≤ 256 := by
    rcases hv with ⟨_, rfl⟩ | ⟨g, A, n, c, rfl, h, _⟩
    · simp
    · exact ⟨h.ok.each, h.ok.len⟩
  have C := fun w => queueAll w v hvv
  refine (callsIn_wide (n := 3)).1 ?_
  refine callsIn_of_wp_marks Try.func50 rfl trivial ?_ rfl
  simp only [Try.ntmps50, List.size_toArray, List.length_cons, List.length_nil, Nat.reduceAdd, Nat.reduceSub, Array.replicate_succ, Array.replicate_zero, List.push_toArray, List.append_toArray, List.nil_append, List.cons_append]
  repeat' ((fail_if_success (with_reducible refine istop_append rfl ?_)); first | go_values | gi_guarded | gi_step | gi_upon | (simp only []; go_at_K))
  refine ⟨trivial, (callsIn_wide.2 (C _)).mono ?_⟩
  have hB4 : Blk (w.alloc (.cells #[.int .i64 0] 2)) w.heap.size 2 #[.int .i64 0] := Blk.new w _ _
  have hU0 : Upd [] [] w (w.alloc (.cells #[.int .i64 0] 2)) := (Upd.refl [] w).alloc _
  generalize w.alloc (.cells #[.int .i64 0] 2) = w0 at *
  rintro e w1 ⟨g, rfl, hBb, hu1⟩
  have h4 := hB4.upd hu1 (by simp)
  have hU1 := hU0.trans hu1
  have hv1 := hv.upd0 hU1
  clear hB4 hU0 hu1 C
  repeat' ((fail_if_success (with_reducible refine istop_append rfl ?_)); first | go_values | gi_guarded | gi_step | gi_upon | (simp only []; go_at_K))
  refine range_leave rfl (enters_of Try.func93 (by kernel_rfl) rfl) fun fn rec HR => ?_
  refine (queueEach 2 (w1.heap.size + 1) _ g v (hBb.alloc _ |>.alloc _) l w.heap.size ((hv1.upd0 ((Upd.refl [] _).alloc _)).upd0 ((Upd.refl [] _).alloc _))
    (fun pre fp W => SJ w.heap.size (w1.heap.size + 1) w1.heap.size (rec .ready none) (sumI pre) fp W)
    (fun _ _ _ _ => False)
    ⟨fun h hu => h.still hu, fun h hu => h, fun h k hk => by rw [h.fps] at hk; have := h4.lt; simp at hk; omega, ?turn⟩
    [w1.heap.size + 1, w.heap.size] ⟨rfl, (h4.alloc _).alloc _, alloc2_new _ _ _, alloc2_old _ _ _⟩).mono ?rest
  case turn =>
    rintro pre x fp W ⟨rfl, hr, hl, hd⟩ ⟨r, hlr⟩
    have hlt4 := h4.lt
    refine (yield_leave HR (R := fun W' => ∃ fp', SJ w.heap.size (w1.heap.size + 1) w1.heap.size (rec .ready none) (sumI (pre ++ [x])) fp' W' ∧ Upd [w1.heap.size + 1, w.heap.size] fp' W W')
      (Rx := fun W' => ∃ fp', False ∧ Upd [w1.heap.size + 1, w.heap.size] fp' W W') hl rfl ?_)
    have hb1 := sumI_bound (l := pre) (fun y hy => hq.1 y (by rw [hlr]; simp [hy]))
    have hb2 := hq.1 x (by rw [hlr]; simp)
    have hb3 : pre.length ≤ 256 := by have := hq.2; rw [hlr] at this; simp at this; omega
    have hw1 : wrap64 (sumI pre + x.2) = sumI (pre ++ [x]) := by rw [sumI_snoc]; unfold wrap64; omega
    have HW := Lib.hid hw1
    clear hU1 hBb h4 hv1 hv hq hb1 hb2 hb3 hw1 hlr
    have hlL := (Array.getElem?_eq_some_iff.1 hl).1
    repeat' ((fail_if_success (with_reducible refine istop_append rfl ?_)); first | go_values | gi_guarded | gi_step | gi_upon | (simp only []; go_at_K))
    refine ⟨(Below.heap_alloc _ _ _ hlL).trans hl, ?_⟩
    generalize hW2 : World.putObj (World.alloc W _) _ _ = W2
    have hlb : W2.heap[w1.heap.size + 1]? = some (rec .busy none) := by rw [← hW2]; exact World.putObj_heap_same (by rw [World.size_alloc]; omega)
    have U2 : Upd [w1.heap.size + 1, w.heap.size] [w1.heap.size + 1, w.heap.size] W W2 := by
      rw [← hW2]; exact (((Upd.refl [] W).alloc _).up _).trans ((upd_putObj _ _ _).wide (by simp))
    have hB2 : Blk W2 W.heap.size 99 #[.int .i64 x.1, .int .i64 x.2] := by
      rw [← hW2]; exact (Blk.new W _ _).upd (upd_putObj _ _ _) (by simp; omega)
    have hr2 : Blk W2 w.heap.size 2 #[.int .i64 (sumI pre)] := by
      rw [← hW2]; exact (hr.alloc _).upd (upd_putObj _ _ _) (by simp; omega)
    have hd2 : W2.heap[w1.heap.size]? = some (.deferred (some [])) := by
      rw [← hW2]; exact ((upd_putObj _ _ _).block _ (by rw [World.size_alloc]; omega) (by simp)).trans ((Below.heap_alloc _ _ _ (by omega)).trans hd)
    clear hW2 hr hd hl
    obtain ⟨⟨q0, q1⟩, -⟩ := hB2.c2
    obtain ⟨qr, fr⟩ := hr2.c1
    repeat' ((fail_if_success (with_reducible refine istop_append rfl ?_)); first | go_values | gi_guarded | gi_step | gi_upon | (simp only []; go_at_K))
    rw [HW.out]
    have U4 : Upd [w.heap.size] [w.heap.size] W2 (W2.setCell ⟨w.heap.size, 0, none⟩ (.int .i64 (sumI (pre ++ [x])))) := (Upd.refl _ _).setCell (.inl (by simp)) _
    have hl4 := (U4.block _ (Array.getElem?_eq_some_iff.1 hlb).1 (by simp; omega)).trans hlb
    have hd4 := (U4.block _ (Array.getElem?_eq_some_iff.1 hd2).1 (by simp; omega)).trans hd2
    have hr4 : Blk (W2.setCell ⟨w.heap.size, 0, none⟩ (.int .i64 (sumI (pre ++ [x])))) w.heap.size 2 #[.int .i64 (sumI (pre ++ [x]))] := by simpa using hr2.set_ 0 (.int .i64 (sumI (pre ++ [x])))
    generalize W2.setCell ⟨w.heap.size, 0, none⟩ (.int .i64 (sumI (pre ++ [x]))) = W4 at *
    refine ⟨hl4, .inl ⟨rfl, [w1.heap.size + 1, w.heap.size], ⟨rfl, hr4.upd (upd_putObj _ _ _) (by simp; omega), World.putObj_heap_same (Array.getElem?_eq_some_iff.1 hl4).1, ((upd_putObj W4 _ _).block _ (Array.getElem?_eq_some_iff.1 hd4).1 (by simp)).trans hd4⟩, ?_⟩⟩
    exact (U2.trans (U4.wide (by simp))).trans ((upd_putObj W4 (w1.heap.size + 1) _).wide (by simp))
  case rest =>
    rintro e w2 ⟨he, ⟨fp', hJ, hu2⟩ | ⟨pre, x, r, fp', hl, hF, hu2⟩⟩
    · refine ⟨he, .inl ⟨hJ.loop, ?_⟩⟩
      obtain ⟨rfl, hr, hlp, hd⟩ := hJ
      have hlt4 := h4.lt
      generalize hW3 : World.putObj w2 _ _ = W3
      have U3 : Upd [w1.heap.size + 1] [w1.heap.size + 1] w2 W3 := by rw [← hW3]; exact upd_putObj _ _ _
      clear hW3
      have hr3 := hr.upd U3 (by simp; omega)
      have hd3 := (U3.block _ (Array.getElem?_eq_some_iff.1 hd).1 (by simp)).trans hd
      have UA : Upd [] [] w W3 := (((hU1.alloc (.deferred (some []))).alloc (rec .ready none)).gives (b' := [w1.heap.size + 1, w.heap.size]) (by simp; omega)).trans ((hu2.trans (U3.wide (by simp))).gives (by simp))
      clear hU1 hu2 U3 hr hlp hd hBb h4 hv hv1 HR
      obtain ⟨qr, fr⟩ := hr3.c1
      simp only [Exit.inBlock, Exit.then]
      repeat' ((fail_if_success (with_reducible refine istop_append rfl ?_)); first | go_values | gi_guarded | gi_step | gi_upon | (simp only []; go_at_K))
      refine ⟨by simp, .inl ⟨_, _, rfl, run_takeDeferred hd3, ?_⟩⟩
      refine ⟨.int .i64 (sumI l), by simp [results, Try.results50, go_sem], rfl, ?_⟩
      exact UA.grown (grownBy_putObj' W3 w1.heap.size (.deferred none)) (fun k hk => by cases hk; right; omega)
    · exact hF.elim

/-- What stands between two rounds of List's loop. -/
structure LJ (Bl L D B : Nat) (o : Obj) (pre : Its) (fp : List Nat) (W : World) : Prop where
  row : ∃ A k c, fp = L :: Bl :: ablk A ∧ Blk W Bl 95 #[.slice A k c] ∧ Agio.Own 99 2 W A k c (pre.flatMap itC) ∧ k = pre.length ∧ ∀ j ∈ ablk A, B ≤ j
  loop : W.heap[L]? = some o
  def_ : W.heap[D]? = some (.deferred (some []))
theorem LJ.still {Bl L D B : Nat} {o : Obj} {pre : Its} {fp b : List Nat} {W W' : World} (h : LJ Bl L D B o pre fp W) (hu : Upd [] b W W') : LJ Bl L D B o pre fp W' := by
  obtain ⟨⟨A, k, c, e, h1, h2, h3, h4⟩, h5, h6⟩ := h
  exact ⟨⟨A, k, c, e, h1.upd hu (by simp), h2.upd hu (by simp), h3, h4⟩, (hu.block L (Array.getElem?_eq_some_iff.1 h5).1 (by simp)).trans h5, (hu.block D (Array.getElem?_eq_some_iff.1 h6).1 (by simp)).trans h6⟩

set_option maxRecDepth 100000 in
set_option maxHeartbeats 2000000 in
theorem queueList (w : World) (v : Value) (l : Its) (hv : QuV w v l w.heap.size) :
    Calls Try.prog 40 #[v] w fun e w' => ∃ A k c, e = .returned (.slice A k c) ∧ Agio.Own 99 2 w' A k c (l.flatMap itC) ∧ k = l.length ∧ Upd [] (ablk A) w w' := by
  have hvv : v = .pointer none ∨ ∃ g, v = .pointer (some ⟨g, 0, none⟩) := by
    rcases hv with h | ⟨g, A, n, c, h, _⟩
    · exact .inl h.1
    · exact .inr ⟨g, h⟩
  have hq := hv.len
  have C := fun w => queueAll w v hvv
  refine (callsIn_wide (n := 3)).1 ?_
  refine callsIn_of_wp_marks Try.func40 rfl trivial ?_ rfl
  simp only [Try.ntmps40, List.size_toArray, List.length_cons, List.length_nil, Nat.reduceAdd, Nat.reduceSub, Array.replicate_succ, Array.replicate_zero, List.push_toArray, List.append_toArray, List.nil_append, List.cons_append]
  repeat' ((fail_if_success (with_reducible refine istop_append rfl ?_)); first | go_values | gi_guarded | gi_step | gi_upon | (simp only []; go_at_K))
  refine ⟨trivial, (callsIn_wide.2 (C _)).mono ?_⟩
  have hB4 : Blk (w.alloc (.cells #[.slice none 0 0] 95)) w.heap.size 95 #[.slice none 0 0] := Blk.new w _ _
  have hU0 : Upd [] [] w (w.alloc (.cells #[.slice none 0 0] 95)) := (Upd.refl [] w).alloc _
  generalize w.alloc (.cells #[.slice none 0 0] 95) = w0 at *
  rintro e w1 ⟨g, rfl, hBb, hu1⟩
  have h4 := hB4.upd hu1 (by simp)
  have hU1 := hU0.trans hu1
  have hv1 := hv.upd0 hU1
  clear hB4 hU0 hu1 C
  repeat' ((fail_if_success (with_reducible refine istop_append rfl ?_)); first | go_values | gi_guarded | gi_step | gi_upon | (simp only []; go_at_K))
  refine range_leave rfl (enters_of Try.func93 (by kernel_rfl) rfl) fun fn rec HR => ?_
  refine (queueEach 2 (w1.heap.size + 1) _ g v (hBb.alloc _ |>.alloc _) l w.heap.size ((hv1.upd0 ((Upd.refl [] _).alloc _)).upd0 ((Upd.refl [] _).alloc _))
    (fun pre fp W => LJ w.heap.size (w1.heap.size + 1) w1.heap.size w.heap.size (rec .ready none) pre fp W)
    (fun _ _ _ _ => False)
    ⟨fun h hu => h.still hu, fun h hu => h, fun h k hk => by
      obtain ⟨⟨A, k', c, e, _, _, _, h9⟩, _, _⟩ := h
      rw [e] at hk; have := h4.lt
      simp only [List.mem_cons] at hk
      rcases hk with rfl | rfl | hk
      · omega
      · omega
      · exact h9 k hk, ?turn⟩
    [w1.heap.size + 1, w.heap.size] ⟨⟨none, 0, 0, rfl, (h4.alloc _).alloc _, Agio.Own.nil _ _ _, rfl, by simp [ablk]⟩, alloc2_new _ _ _, alloc2_old _ _ _⟩).mono ?rest
  case turn =>
    rintro pre x fp W ⟨⟨A, k, c, rfl, hr, ho, hk, hA⟩, hl, hd⟩ ⟨r, hlr⟩
    have hlt4 := h4.lt
    refine (yield_leave HR (R := fun W' => ∃ fp', LJ w.heap.size (w1.heap.size + 1) w1.heap.size w.heap.size (rec .ready none) (pre ++ [x]) fp' W' ∧ Upd ((w1.heap.size + 1) :: w.heap.size :: ablk A) fp' W W')
      (Rx := fun W' => ∃ fp', False ∧ Upd ((w1.heap.size + 1) :: w.heap.size :: ablk A) fp' W W') hl rfl ?_)
    have hb3 : pre.length ≤ 256 := by rw [hlr] at hq; simp at hq; omega
    have hsz : w.heap.size ≤ W.heap.size := by have := (Array.getElem?_eq_some_iff.1 hl).1; omega
    clear hU1 hBb h4 hv1 hv hq hlr
    have hlL := (Array.getElem?_eq_some_iff.1 hl).1
    have hnA := own_not_obj ho hl (rec_cells HR _ _)
    have hnD := own_not_obj ho hd rfl
    repeat' ((fail_if_success (with_reducible refine istop_append rfl ?_)); first | go_values | gi_guarded | gi_step | gi_upon | (simp only []; go_at_K))
    refine ⟨(Below.heap_alloc _ _ _ hlL).trans hl, ?_⟩
    generalize hW2 : World.putObj (World.alloc W _) _ _ = W2
    have hlb : W2.heap[w1.heap.size + 1]? = some (rec .busy none) := by rw [← hW2]; exact World.putObj_heap_same (by rw [World.size_alloc]; omega)
    have U2 : Upd [w1.heap.size + 1] [w1.heap.size + 1] W W2 := by
      rw [← hW2]; exact (((Upd.refl [] W).alloc _).up _).trans (upd_putObj _ _ _)
    have hB2 : Blk W2 W.heap.size 99 #[.int .i64 x.1, .int .i64 x.2] := by
      rw [← hW2]; exact (Blk.new W _ _).upd (upd_putObj _ _ _) (by simp; omega)
    clear hW2
    have hr2 := hr.upd U2 (by simp; omega)
    have ho2 := ho.upd U2 (fun j hj => by simp; rintro rfl; exact hnA hj)
    have hd2 := (U2.block _ (Array.getElem?_eq_some_iff.1 hd).1 (by simp)).trans hd
    have hs2 := U2.size
    clear hr hd hl ho
    obtain ⟨⟨q0, q1⟩, -⟩ := hB2.c2
    obtain ⟨qr, fr⟩ := hr2.c1
    have HK := Lib.hid hk
    clear hk
    repeat' ((fail_if_success (with_reducible refine istop_append rfl ?_)); first | go_values | gi_guarded | gi_step | gi_upon | (simp only []; go_at_K))
    have hk1 := HK.out
    refine wpListIn_push rfl _ _ 95 rfl 99 Try.underlying95 infoItm rfl (by decide) ho2 rfl _ rfl (news := itC x) rfl rfl rfl (by unfold maxLen; omega) (by omega) ?_
    intro A4 c4 w4 ho4 hu4
    have hr4 := hr2.upd hu4 (ho2.ne hr2 (by decide))
    have hl4 := (hu4.block _ (Array.getElem?_eq_some_iff.1 hlb).1 (own_not_obj ho2 hlb (rec_cells HR _ _))).trans hlb
    have hd4 := (hu4.block _ (Array.getElem?_eq_some_iff.1 hd2).1 (own_not_obj ho2 hd2 rfl)).trans hd2
    have hA4 : ∀ j ∈ ablk A4, w.heap.size ≤ j := fun j hj => by
      rcases hu4.fresh j hj with h | h
      · exact hA j h
      · omega
    clear qr fr q0 q1 hk1
    obtain ⟨qr, fr⟩ := hr4.c1
    repeat' ((fail_if_success (with_reducible refine istop_append rfl ?_)); first | go_values | gi_guarded | gi_step | gi_upon | (simp only []; go_at_K))
    have U6 : Upd [w.heap.size] [w.heap.size] w4 (w4.setCell ⟨w.heap.size, 0, none⟩ (.slice A4 (k + 1) c4)) := (Upd.refl _ _).setCell (.inl (by simp)) _
    have hr6 : Blk (w4.setCell ⟨w.heap.size, 0, none⟩ (.slice A4 (k + 1) c4)) w.heap.size 95 #[.slice A4 (k + 1) c4] := by simpa using hr4.set_ 0 (.slice A4 (k + 1) c4)
    have hl6 := (U6.block _ (Array.getElem?_eq_some_iff.1 hl4).1 (by simp; omega)).trans hl4
    have hd6 := (U6.block _ (Array.getElem?_eq_some_iff.1 hd4).1 (by simp; omega)).trans hd4
    have ho6 := ho4.upd U6 (fun j hj => by simp; rintro rfl; exact ho4.ne hr4 (by decide) hj)
    generalize World.setCell _ _ _ = W6 at *
    have nL := own_not_obj ho6 hl6 (rec_cells HR _ _)
    refine ⟨hl6, .inl ⟨rfl, (w1.heap.size + 1) :: w.heap.size :: ablk A4, ⟨⟨A4, k + 1, c4, rfl, hr6.upd (upd_putObj W6 _ _) (by simp; omega), ?_, by simp [HK.out], hA4⟩,
      World.putObj_heap_same (Array.getElem?_eq_some_iff.1 hl6).1, ((upd_putObj W6 _ _).block _ (Array.getElem?_eq_some_iff.1 hd6).1 (by simp)).trans hd6⟩, ?_⟩⟩
    · have := ho6.upd (upd_putObj W6 (w1.heap.size + 1) (rec .ready none)) (fun j hj => by simp; rintro rfl; exact nL hj)
      simpa [List.flatMap_append] using this
    · have V2 : Upd ((w1.heap.size + 1) :: w.heap.size :: ablk A) ((w1.heap.size + 1) :: w.heap.size :: ablk A) W W2 := U2.wide (by simp)
      have V4 : Upd ((w1.heap.size + 1) :: w.heap.size :: ablk A) ((w1.heap.size + 1) :: w.heap.size :: ablk A4) W2 w4 := hu4.mono (fun k hk => by simp [hk]) (fun k hk => by
        simp only [List.mem_cons] at hk ⊢
        rcases hk with hk | hk | hk
        · exact .inr (.inl (.inl hk))
        · exact .inr (.inl (.inr (.inl hk)))
        · exact .inl hk)
      exact ((V2.trans V4).trans (U6.wide (by simp))).trans ((upd_putObj W6 (w1.heap.size + 1) _).wide (by simp))
  case rest =>
    rintro e w2 ⟨he, ⟨fp', hJ, hu2⟩ | ⟨pre, x, r, fp', hl, hF, hu2⟩⟩
    · refine ⟨he, .inl ⟨hJ.loop, ?_⟩⟩
      obtain ⟨⟨A, k, c, rfl, hr, ho, hk, hA⟩, hlp, hd⟩ := hJ
      have hlt4 := h4.lt
      have nL := own_not_obj ho hlp (rec_cells HR _ _)
      generalize hW3 : World.putObj w2 _ _ = W3
      have U3 : Upd [w1.heap.size + 1] [w1.heap.size + 1] w2 W3 := by rw [← hW3]; exact upd_putObj _ _ _
      clear hW3
      have hr3 := hr.upd U3 (by simp; omega)
      have ho3 := ho.upd U3 (fun j hj => by simp; rintro rfl; exact nL hj)
      have hd3 := (U3.block _ (Array.getElem?_eq_some_iff.1 hd).1 (by simp)).trans hd
      have UA : Upd [] ((w1.heap.size + 1) :: w.heap.size :: ablk A) w W3 := (((hU1.alloc (.deferred (some []))).alloc (rec .ready none)).gives (b' := [w1.heap.size + 1, w.heap.size]) (by simp; omega)).trans (hu2.trans (U3.wide (by simp)))
      have nD := own_not_obj ho3 hd3 rfl
      clear hU1 hu2 U3 hr hlp hd hBb h4 hv hv1 HR ho
      obtain ⟨qr, fr⟩ := hr3.c1
      have HK := Lib.hid hk
      clear hk
      simp only [Exit.inBlock, Exit.then]
      repeat' ((fail_if_success (with_reducible refine istop_append rfl ?_)); first | go_values | gi_guarded | gi_step | gi_upon | (simp only []; go_at_K))
      refine ⟨by simp, .inl ⟨_, _, rfl, run_takeDeferred hd3, ?_⟩⟩
      refine ⟨.slice A k c, by simp [results, Try.results40, go_sem], A, k, c, rfl, ho3.upd (upd_putObj W3 _ _) (fun j hj => by simp; rintro rfl; exact nD hj), HK.out, ?_⟩
      exact (UA.grown (grownBy_putObj' W3 w1.heap.size (.deferred none)) (fun k hk => by cases hk; right; omega)).gives (fun j hj => .inr (hA j hj))
    · exact hF.elim
end Go.Proofs.Ytdmmpcdilkcfjaa
