/- A queue: find. -/
import Derived.Test.YtdmmpcdilkcfjaaQueue1
import Derived.Shelf.Abstract
namespace Go.Proofs.Ytdmmpcdilkcfjaa
open Go.RowKit Agio
attribute [local go_sem] Oper.semAt_some

theorem idxQ_at {id : Int} {pre r : Its} {x : Itm} (h : ∀ y ∈ pre, y.1 ≠ id) (hx : x.1 = id) (i : Nat) : idxQ id (pre ++ x :: r) i = ((i + pre.length : Nat) : Int) := by
  induction pre generalizing i with
  | nil => simp [idxQ, hx]
  | cons y p ih =>
    rw [List.cons_append, idxQ, if_neg (h y (by simp)), ih fun z hz => h z (List.mem_cons_of_mem _ hz)]
    simp; omega

/-- What stands between two rounds of find's loop. -/
structure FJ (id : Int) (B3 B4 L D : Nat) (o : Obj) (v : Int) (fp : List Nat) (W : World) : Prop where
  fps : fp = [L, B4]
  key : Blk W B3 2 #[.int .i64 id]
  res : Blk W B4 3 #[.int .i64 v]
  loop : W.heap[L]? = some o
  def_ : W.heap[D]? = some (.deferred (some []))
theorem FJ.still {id : Int} {B3 B4 L D : Nat} {o : Obj} {v : Int} {fp b : List Nat} {W W' : World} (h : FJ id B3 B4 L D o v fp W) (hu : Upd [] b W W') : FJ id B3 B4 L D o v fp W' :=
  ⟨h.fps, h.key.upd hu (by simp), h.res.upd hu (by simp), (hu.block L (Array.getElem?_eq_some_iff.1 h.loop).1 (by simp)).trans h.loop, (hu.block D (Array.getElem?_eq_some_iff.1 h.def_).1 (by simp)).trans h.def_⟩

set_option maxRecDepth 100000 in
set_option maxHeartbeats 2000000 in
theorem queueFind (w : World) (v : Value) (l : Its) (hv : QuV w v l w.heap.size) (id : Int) :
    Calls Try.prog 66 #[v, .int .i64 id] w fun e w' => e = .returned (.int .i64 (idxQ id l 0)) ∧ Upd [] [] w w' := by
  have hvv : v = .pointer none ∨ ∃ g, v = .pointer (some ⟨g, 0, none⟩) := by
    rcases hv with h | ⟨g, A, n, c, h, _⟩
    · exact .inl h.1
    · exact .inr ⟨g, h⟩
  have C := fun w => queueAll w v hvv
  refine (callsIn_wide (n := 3)).1 ?_
  refine callsIn_of_wp_marks Try.func66 rfl trivial ?_ rfl
  simp only [Try.ntmps66, List.size_toArray, List.length_cons, List.length_nil, Nat.reduceAdd, Nat.reduceSub, Array.replicate_succ, Array.replicate_zero, List.push_toArray, List.append_toArray, List.nil_append, List.cons_append]
  repeat' ((fail_if_success (with_reducible refine istop_append rfl ?_)); first | go_values | gi_guarded | gi_step | gi_upon | (simp only []; go_at_K))
  refine ⟨trivial, (callsIn_wide.2 (C _)).mono ?_⟩
  have hB3 : Blk ((w.alloc (.cells #[.int .i64 id] 2)).alloc (.cells #[.int .i64 0] 3)) w.heap.size 2 #[.int .i64 id] := (Blk.new w _ _).alloc _
  have hB4 : Blk ((w.alloc (.cells #[.int .i64 id] 2)).alloc (.cells #[.int .i64 0] 3)) (w.heap.size + 1) 3 #[.int .i64 0] := by
    have := Blk.new (w.alloc (.cells #[.int .i64 id] 2)) 3 #[.int .i64 0]
    rwa [World.size_alloc] at this
  have hU0 : Upd [] [] w ((w.alloc (.cells #[.int .i64 id] 2)).alloc (.cells #[.int .i64 0] 3)) := ((Upd.refl [] w).alloc _).alloc _
  generalize (w.alloc (.cells #[.int .i64 id] 2)).alloc (.cells #[.int .i64 0] 3) = w0 at *
  rintro e w1 ⟨g, rfl, hBb, hu1⟩
  have h3 := hB3.upd hu1 (by simp)
  have h4 := hB4.upd hu1 (by simp)
  have hU1 := hU0.trans hu1
  have hv1 := hv.upd0 hU1
  clear hB3 hB4 hU0 hu1 C
  repeat' ((fail_if_success (with_reducible refine istop_append rfl ?_)); first | go_values | gi_guarded | gi_step | gi_upon | (simp only []; go_at_K))
  refine range_leave rfl (enters_of Try.func93 (by kernel_rfl) rfl) fun fn rec HR => ?_
  refine (queueEach 2 (w1.heap.size + 1) _ g v (hBb.alloc _ |>.alloc _) l w.heap.size ((hv1.upd0 ((Upd.refl [] _).alloc _)).upd0 ((Upd.refl [] _).alloc _))
    (fun pre fp W => (∀ y ∈ pre, y.1 ≠ id) ∧ FJ id w.heap.size (w.heap.size + 1) (w1.heap.size + 1) w1.heap.size (rec .ready none) 0 fp W)
    (fun pre x fp W => ((∀ y ∈ pre, y.1 ≠ id) ∧ x.1 = id) ∧ FJ id w.heap.size (w.heap.size + 1) (w1.heap.size + 1) w1.heap.size (rec .done (some .ret)) (pre.length : Int) fp W)
    ⟨fun h hu => ⟨h.1, h.2.still hu⟩, fun h hu => ⟨h.1, h.2.still hu⟩, fun h k hk => by rw [h.2.fps] at hk; have := h4.lt; have := h3.lt; simp at hk; omega, ?turn⟩
    [w1.heap.size + 1, w.heap.size + 1] ⟨by simp, rfl, (h3.alloc _).alloc _, (h4.alloc _).alloc _, alloc2_new _ _ _, alloc2_old _ _ _⟩).mono ?rest
  case turn =>
    rintro pre x fp W ⟨hne, rfl, hk, hr, hl, hd⟩ -
    have hlt3 := h3.lt
    have hlt4 := h4.lt
    refine (yield_leave HR (R := fun W' => ∃ fp', ((∀ y ∈ pre ++ [x], y.1 ≠ id) ∧ FJ id w.heap.size (w.heap.size + 1) (w1.heap.size + 1) w1.heap.size (rec .ready none) 0 fp' W') ∧ Upd [w1.heap.size + 1, w.heap.size + 1] fp' W W')
      (Rx := fun W' => ∃ fp', (((∀ y ∈ pre, y.1 ≠ id) ∧ x.1 = id) ∧ FJ id w.heap.size (w.heap.size + 1) (w1.heap.size + 1) w1.heap.size (rec .done (some .ret)) (pre.length : Int) fp' W') ∧ Upd [w1.heap.size + 1, w.heap.size + 1] fp' W W') hl rfl ?_)
    clear hU1 hBb h3 h4 hv1 hv
    have hlL := (Array.getElem?_eq_some_iff.1 hl).1
    repeat' ((fail_if_success (with_reducible refine istop_append rfl ?_)); first | go_values | gi_guarded | gi_step | gi_upon | (simp only []; go_at_K))
    refine ⟨(Below.heap_alloc _ _ _ hlL).trans hl, ?_⟩
    generalize hW2 : World.putObj (World.alloc W _) _ _ = W2
    have hlb : W2.heap[w1.heap.size + 1]? = some (rec .busy none) := by rw [← hW2]; exact World.putObj_heap_same (by rw [World.size_alloc]; omega)
    have U2 : Upd [w1.heap.size + 1, w.heap.size + 1] [w1.heap.size + 1, w.heap.size + 1] W W2 := by
      rw [← hW2]; exact (((Upd.refl [] W).alloc _).up _).trans ((upd_putObj _ _ _).wide (by simp))
    have hB2 : Blk W2 W.heap.size 99 #[.int .i64 x.1, .int .i64 x.2] := by
      rw [← hW2]; exact (Blk.new W _ _).upd (upd_putObj _ _ _) (by simp; omega)
    have hk2 : Blk W2 w.heap.size 2 #[.int .i64 id] := by
      rw [← hW2]; exact (hk.alloc _).upd (upd_putObj _ _ _) (by simp; omega)
    have hr2 : Blk W2 (w.heap.size + 1) 3 #[.int .i64 0] := by
      rw [← hW2]; exact (hr.alloc _).upd (upd_putObj _ _ _) (by simp; omega)
    have hd2 : W2.heap[w1.heap.size]? = some (.deferred (some [])) := by
      rw [← hW2]; exact ((upd_putObj _ _ _).block _ (by rw [World.size_alloc]; omega) (by simp)).trans ((Below.heap_alloc _ _ _ (by omega)).trans hd)
    clear hW2 hk hr hd hl
    obtain ⟨⟨q0, q1⟩, -⟩ := hB2.c2
    obtain ⟨qk, -⟩ := hk2.c1
    obtain ⟨qr, fr⟩ := hr2.c1
    have HP := Lib.hid hne
    clear hne
    by_cases e : x.1 = id
    · have hbe : (x.1 == id) = true := by simpa using e
      have HE := Lib.hid e
      clear e
      repeat' ((fail_if_success (with_reducible refine istop_append rfl ?_)); first | go_values | gi_guarded | gi_step | gi_upon | (simp only []; go_at_K))
      have U4 : Upd [w.heap.size + 1] [w.heap.size + 1] W2 (W2.setCell ⟨w.heap.size + 1, 0, none⟩ (.int .i64 (pre.length : Int))) := (Upd.refl _ _).setCell (.inl (by simp)) _
      have hl4 := (U4.block _ (Array.getElem?_eq_some_iff.1 hlb).1 (by simp; omega)).trans hlb
      have hd4 := (U4.block _ (Array.getElem?_eq_some_iff.1 hd2).1 (by simp; omega)).trans hd2
      have hk4 := hk2.upd U4 (by simp)
      have hr4 : Blk (W2.setCell ⟨w.heap.size + 1, 0, none⟩ (.int .i64 (pre.length : Int))) (w.heap.size + 1) 3 #[.int .i64 (pre.length : Int)] := by simpa using hr2.set_ 0 (.int .i64 (pre.length : Int))
      generalize W2.setCell ⟨w.heap.size + 1, 0, none⟩ (.int .i64 (pre.length : Int)) = W4 at *
      refine ⟨hl4, .inr ⟨rfl, [w1.heap.size + 1, w.heap.size + 1], ⟨⟨HP.out, HE.out⟩, rfl, hk4.upd (upd_putObj _ _ _) (by simp; omega), hr4.upd (upd_putObj _ _ _) (by simp; omega), World.putObj_heap_same (Array.getElem?_eq_some_iff.1 hl4).1, ((upd_putObj W4 _ _).block _ (Array.getElem?_eq_some_iff.1 hd4).1 (by simp)).trans hd4⟩, ?_⟩⟩
      exact (U2.trans (U4.wide (by simp))).trans ((upd_putObj W4 (w1.heap.size + 1) _).wide (by simp))
    · have hbe : (x.1 == id) = false := by simpa using e
      have HE := Lib.hid e
      clear e
      repeat' ((fail_if_success (with_reducible refine istop_append rfl ?_)); first | go_values | gi_guarded | gi_step | gi_upon | (simp only []; go_at_K))
      refine ⟨hlb, .inl ⟨rfl, [w1.heap.size + 1, w.heap.size + 1], ⟨fun y hy => ?_, rfl, hk2.upd (upd_putObj _ _ _) (by simp; omega), hr2.upd (upd_putObj _ _ _) (by simp; omega), World.putObj_heap_same (Array.getElem?_eq_some_iff.1 hlb).1, ((upd_putObj W2 _ _).block _ (Array.getElem?_eq_some_iff.1 hd2).1 (by simp)).trans hd2⟩, ?_⟩⟩
      · rcases List.mem_append.1 hy with hy | hy
        · exact HP.out y hy
        · obtain rfl := List.mem_singleton.1 hy; exact HE.out
      · exact U2.trans ((upd_putObj W2 (w1.heap.size + 1) _).wide (by simp))
  case rest =>
    rintro e w2 ⟨he, ⟨fp', ⟨hne, hJ⟩, hu2⟩ | ⟨pre, x, r, fp', hl, ⟨⟨hne, hx⟩, hJ⟩, hu2⟩⟩
    · refine ⟨he, .inl ⟨hJ.loop, ?_⟩⟩
      obtain ⟨rfl, hk, hr, hlp, hd⟩ := hJ
      have hlt3 := h3.lt
      have hlt4 := h4.lt
      generalize hW3 : World.putObj w2 _ _ = W3
      have U3 : Upd [w1.heap.size + 1] [w1.heap.size + 1] w2 W3 := by rw [← hW3]; exact upd_putObj _ _ _
      clear hW3
      have hr3 := hr.upd U3 (by simp; omega)
      have hd3 := (U3.block _ (Array.getElem?_eq_some_iff.1 hd).1 (by simp)).trans hd
      have UA : Upd [] [] w W3 := (((hU1.alloc (.deferred (some []))).alloc (rec .ready none)).gives (b' := [w1.heap.size + 1, w.heap.size + 1]) (by simp; omega)).trans ((hu2.trans (U3.wide (by simp))).gives (by simp))
      have hid : idxQ id l 0 = -1 := idxQ_none hne 0
      have HI := Lib.hid hid
      clear hid hU1 hu2 U3 hk hr hlp hd hne hBb h3 h4 hv hv1 HR
      obtain ⟨qr, fr⟩ := hr3.c1
      have q9 : (W3.setCell ⟨w.heap.size + 1, 0, none⟩ (.int .i64 (-1))).cell? ⟨w.heap.size + 1, 0, none⟩ = some (.int .i64 (-1)) := (hr3.set_ 0 (.int .i64 (-1))).cell 0
      simp only [Exit.inBlock, Exit.then]
      repeat' ((fail_if_success (with_reducible refine istop_append rfl ?_)); first | go_values | gi_guarded | gi_step | gi_upon | (simp only []; go_at_K))
      have U4 : Upd [w.heap.size + 1] [w.heap.size + 1] W3 (W3.setCell ⟨w.heap.size + 1, 0, none⟩ (.int .i64 (-1))) := (Upd.refl _ _).setCell (.inl (by simp)) _
      have hr4 : Blk (W3.setCell ⟨w.heap.size + 1, 0, none⟩ (.int .i64 (-1))) (w.heap.size + 1) 3 #[.int .i64 (-1)] := by simpa using hr3.set_ 0 (.int .i64 (-1))
      have hd4 := (U4.block _ (Array.getElem?_eq_some_iff.1 hd3).1 (by simp; omega)).trans hd3
      have UB := UA.setCell (p := ⟨w.heap.size + 1, 0, none⟩) (.inr (by simp)) (.int .i64 (-1))
      generalize W3.setCell ⟨w.heap.size + 1, 0, none⟩ (.int .i64 (-1)) = W4 at *
      have qr4 := (hr4.upd (upd_putObj W4 w1.heap.size (.deferred none)) (by simp; omega)).cell 0
      simp only [List.getElem?_toArray, List.getElem?_cons_zero] at qr4
      refine ⟨by simp, .inl ⟨_, _, rfl, run_takeDeferred hd4, ?_⟩⟩
      refine ⟨.int .i64 (-1), by simp [results, Try.results66, go_sem, qr4], by rw [HI.out], ?_⟩
      exact UB.grown (grownBy_putObj' W4 w1.heap.size (.deferred none)) (fun k hk => by cases hk; right; omega)
    · refine ⟨he, .inr ⟨hJ.loop, ?_⟩⟩
      obtain ⟨rfl, hk, hr, hlp, hd⟩ := hJ
      have hlt3 := h3.lt
      have hlt4 := h4.lt
      generalize hW3 : World.putObj w2 _ _ = W3
      have U3 : Upd [w1.heap.size + 1] [w1.heap.size + 1] w2 W3 := by rw [← hW3]; exact upd_putObj _ _ _
      clear hW3
      have hr3 := hr.upd U3 (by simp; omega)
      have hd3 := (U3.block _ (Array.getElem?_eq_some_iff.1 hd).1 (by simp)).trans hd
      have UA : Upd [] [] w W3 := (((hU1.alloc (.deferred (some []))).alloc (rec .ready none)).gives (b' := [w1.heap.size + 1, w.heap.size + 1]) (by simp; omega)).trans ((hu2.trans (U3.wide (by simp))).gives (by simp))
      have hid : idxQ id l 0 = (pre.length : Int) := by rw [hl, idxQ_at hne hx]; simp
      have HI := Lib.hid hid
      clear hid hU1 hu2 U3 hk hr hlp hd hne hBb h3 h4 hv hv1 HR hl hx
      obtain ⟨qr, fr⟩ := hr3.c1
      repeat' ((fail_if_success (with_reducible refine istop_append rfl ?_)); first | go_values | gi_guarded | gi_step | gi_upon | (simp only []; go_at_K))
      have qr4 := (hr3.upd (upd_putObj W3 w1.heap.size (.deferred none)) (by simp; omega)).cell 0
      simp only [List.getElem?_toArray, List.getElem?_cons_zero] at qr4
      refine ⟨by simp, .inl ⟨_, _, rfl, run_takeDeferred hd3, ?_⟩⟩
      refine ⟨.int .i64 (pre.length : Int), by simp [results, Try.results66, go_sem, qr4], by rw [HI.out], ?_⟩
      exact UA.grown (grownBy_putObj' W3 w1.heap.size (.deferred none)) (fun k hk => by cases hk; right; omega)
end Go.Proofs.Ytdmmpcdilkcfjaa
