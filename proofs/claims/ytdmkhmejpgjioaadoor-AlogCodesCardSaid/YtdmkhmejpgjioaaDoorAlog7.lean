/- Records: agioref07's May and One; the law's one, real, may. -/
import Derived.Test.YtdmkhmejpgjioaaDoorAlog5
import Derived.Test.YtdmkhmejpgjioaaDoorNet
set_option linter.all false
namespace Go.Proofs.YtdmkhmejpgjioaaDoor
open Go.RowKit Agio

set_option maxRecDepth 100000 in
set_option maxHeartbeats 4000000 in
theorem ref07May (x : Rv) (w : World) (hr : RdB w x.A x.n x.b) :
    Calls Tryd.prog 48 #[x.val] w fun e w' => (∃ v, e = .returned (.bool v) ∧ (v = true ↔ x.rc.May)) ∧ Upd [] [] w w' := by
  obtain ⟨k, s, r, t, A, n, c, b⟩ := x
  have hn := hr.len
  simp only at hn
  have hU := fun o o' => ((Upd.refl [] w).alloc o).alloc o'
  have hM : (⟨k, s, r, t, A, n, c, b⟩ : Rv).rc.May ↔ (k = 1 ∧ (n : Int) = 0 ∨ k = 2) ∧ (0 ≤ s ∧ s ≤ 4095) ∧ (0 ≤ r ∧ r ≤ 1099511627776) ∧ (0 ≤ t ∧ t ≤ 6) ∧ (n : Int) ≤ 2048 := by
    constructor
    · rintro ⟨h1, h2, h3, h4, h5⟩
      simp only [Rv.rc] at h1 h2 h3 h4 h5
      omega
    · rintro ⟨h1, h2, h3, h4, h5⟩
      exact ⟨by simp only [Rv.rc]; omega, h2, h3, h4, by simp only [Rv.rc]; omega⟩
  have HM := Lib.hid hM
  clear hM hr hn
  rw [Rv.val_eq]
  go_enter Tryd.func48, Tryd.ntmps48
  repeat' ((fail_if_success (with_reducible refine stop_append rfl ?_)); (fail_if_success (with_reducible refine stop_copy rfl ?_)); first | go_values | go_skip | go_guarded | go_step | go_upon | (simp only []; go_at_K))
  all_goals go_ret
  all_goals refine ⟨⟨_, rfl, ?_⟩, hU _ _⟩
  all_goals refine Iff.trans ?_ HM.out.symm
  all_goals clear HM hU
  all_goals first
    | (simp only [Bool.false_eq_true, false_iff]; omega)
    | (simp only [true_iff]; omega)
    | (simp only [beq_iff_eq]; omega)
    | omega

set_option maxRecDepth 100000 in
set_option maxHeartbeats 4000000 in
theorem ref07One (x y : Rv) (w : World) (h1 : RdB w x.A x.n x.b) (h2 : RdB w y.A y.n y.b) (h : x.rc = y.rc) :
    Calls Tryd.prog 19 #[.agg #[.int .i64 x.k, .int .i64 x.s, .int .i64 x.r, .int .i64 x.t, .slice x.A x.n x.c], .agg #[.int .i64 y.k, .int .i64 y.s, .int .i64 y.r, .int .i64 y.t, .slice y.A y.n y.c]] w fun e w' => e = .returned (.bool true) ∧ Upd [] [] w w' := by
  obtain ⟨k, s, r, t, A, n, c, b⟩ := x
  obtain ⟨k2, s2, r2, t2, A2, n2, c2, b2⟩ := y
  simp only [Rv.rc, Rc.mk.injEq] at h h1 h2
  obtain ⟨rfl, rfl, rfl, rfl, rfl⟩ := h
  have eq := fun a b w => (eqBal a b a b w).trans (by rw [show ((a == a) && (b == b)) = true by simp])
  have s1 := fun o o' => strOf ((h1.alloc o).alloc o') c
  have s2 := fun o o' => strOf ((h2.alloc o).alloc o') c2
  have hU := fun o o' => ((Upd.refl [] w).alloc o).alloc o'
  clear h1 h2
  go_enter Tryd.func19, Tryd.ntmps19
  repeat' ((fail_if_success (with_reducible refine stop_append rfl ?_)); (fail_if_success (with_reducible refine stop_copy rfl ?_)); first | go_values | go_skip | go_guarded | go_step | go_upon | (simp only []; go_at_K))
  go_ret
  exact ⟨rfl, hU _ _⟩

theorem infoRec2 : (Tryd.prog.info? 48).map (fun i => (i.zero, i.size, i.bytes)) = some (some (.agg #[.int .i64 0, .int .i64 0, .int .i64 0, .int .i64 0, .slice none 0 0]), 5, 56) := by kernel_rfl
theorem infoRec1 : (Tryd.prog.info? 44).map (fun i => (i.zero, i.size, i.bytes)) = some (some (.agg #[.int .i64 0, .int .i64 0, .int .i64 0, .int .i64 0, .slice none 0 0]), 5, 56) := by kernel_rfl
theorem cells_snoc {l : List Rv} {i : Nat} (h : i < l.length) : (l.take (i + 1)).flatMap Rv.cells = (l.take i).flatMap Rv.cells ++ [.int .i64 l[i].k, .int .i64 l[i].s, .int .i64 l[i].r, .int .i64 l[i].t, .slice l[i].A l[i].n l[i].c] := by
  rw [List.take_succ_eq_append_getElem h, List.flatMap_append]; simp [Rv.cells]

set_option maxRecDepth 100000 in
set_option maxHeartbeats 2000000 in
theorem law07One (x y : Rv) (w : World) (h1 : RdB w x.A x.n x.b) (h2 : RdB w y.A y.n y.b) (h : x.rc = y.rc) :
    Calls Tryd.prog 44 #[.agg #[.int .i64 x.k, .int .i64 x.s, .int .i64 x.r, .int .i64 x.t, .slice x.A x.n x.c], .agg #[.int .i64 y.k, .int .i64 y.s, .int .i64 y.r, .int .i64 y.t, .slice y.A y.n y.c]] w fun e w' => e = .returned (.bool true) ∧ Upd [] [] w w' := by
  have C := fun o o' => ref07One x y ((w.alloc o).alloc o') ((h1.alloc o).alloc o') ((h2.alloc o).alloc o') h
  have hU := fun o o' => ((Upd.refl [] w).alloc o).alloc o'
  clear h1 h2
  go_enter Tryd.func44, Tryd.ntmps44
  repeat' ((fail_if_success (with_reducible refine stop_append rfl ?_)); (fail_if_success (with_reducible refine stop_copy rfl ?_)); first | go_values | go_skip | go_guarded | go_step | go_upon | (simp only []; go_at_K))
  ((with_reducible refine (C _ _).mono ?_); rintro e w2 ⟨rfl, hu2⟩)
  repeat' ((fail_if_success (with_reducible refine stop_append rfl ?_)); (fail_if_success (with_reducible refine stop_copy rfl ?_)); first | go_values | go_skip | go_guarded | go_step | go_upon | (simp only []; go_at_K))
  go_ret
  exact ⟨rfl, (hU _ _).trans hu2⟩

end Go.Proofs.YtdmkhmejpgjioaaDoor
