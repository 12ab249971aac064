/- Records: (agio/alog).Lay. -/
import Derived.Test.YtdmkhmejpgjioaaDoorAlog4
import Derived.Test.YtdmkhmejpgjioaaDoorStructs
set_option linter.all false
namespace Go.Proofs.YtdmkhmejpgjioaaDoor
open Go.RowKit Agio

/-- A slice of records, as it is read. -/
structure Rvs (w : World) (A : Option Addr) (n : Nat) (l : List Rv) : Prop where
  rd : RdS Rv.cells 5 w A n l
  each : ∀ x ∈ l, RdB w x.A x.n x.b
theorem Rvs.upd {w w' : World} {A : Option Addr} {n : Nat} {l : List Rv} {b : List Nat} (h : Rvs w A n l) (hu : Upd [] b w w') : Rvs w' A n l :=
  ⟨h.rd.upd0 hu, fun x hx => (h.each x hx).upd hu (by simp)⟩
theorem Rvs.len {w : World} {A : Option Addr} {n : Nat} {l : List Rv} (h : Rvs w A n l) : n = l.length := h.rd.len
theorem Rvs.at_ {w : World} {A : Option Addr} {n : Nat} {l : List Rv} (h : Rvs w A n l) {i : Nat} (hi : i < l.length) : ∃ ad, A = some ad ∧ w.cell? (ad.add (i * 5)) = some (.int .i64 l[i].k) ∧ w.cell? ⟨(ad.add (i * 5)).block, (ad.add (i * 5)).off + 1, none⟩ = some (.int .i64 l[i].s) ∧
    w.cell? ⟨(ad.add (i * 5)).block, (ad.add (i * 5)).off + 2, none⟩ = some (.int .i64 l[i].r) ∧ w.cell? ⟨(ad.add (i * 5)).block, (ad.add (i * 5)).off + 3, none⟩ = some (.int .i64 l[i].t) ∧ w.cell? ⟨(ad.add (i * 5)).block, (ad.add (i * 5)).off + 4, none⟩ = some (.slice l[i].A l[i].n l[i].c) := by
  obtain ⟨ad, e, h0, hj⟩ := h.rd.at_ Rv.cells_len hi
  exact ⟨ad, e, h0 _ rfl, hj 1 _ (by omega) rfl, hj 2 _ (by omega) rfl, hj 3 _ (by omega) rfl, hj 4 _ (by omega) rfl⟩
def rcs (l : List Rv) : List Rc := l.map Rv.rc
theorem rcs_take {l : List Rv} {i : Nat} (h : i < l.length) : layB (rcs (l.take (i + 1))) = layB (rcs (l.take i)) ++ put l[i].rc.bytes := by
  unfold rcs
  rw [List.take_succ_eq_append_getElem h, List.map_append, layB_append]; simp [layB]
theorem layB_take_le (l : List Rv) (i : Nat) : (layB (rcs (l.take i))).length ≤ (layB (rcs l)).length := by
  have : layB (rcs l) = layB (rcs (l.take i)) ++ layB (rcs (l.drop i)) := by unfold rcs; rw [← layB_append, ← List.map_append, List.take_append_drop]
  rw [this, List.length_append]; omega

set_option maxRecDepth 100000 in
set_option maxHeartbeats 2000000 in
theorem alogLay (w : World) (A : Option Addr) (n c : Nat) (l : List Rv) (hr : Rvs w A n l) (hm : ∀ x ∈ l, x.rc.May) (hn : n ≤ 140737488355328) (hb : (layB (rcs l)).length ≤ 140737488355328) :
    Calls Tryd.prog 42 #[.slice A n c] w fun e w' => ∃ A' k' c', e = .returned (.tuple #[.slice A' k' c', .int .i64 0]) ∧ OwnB 5 w' A' k' c' (layB (rcs l)) ∧ Upd [] (ablk A') w w' := by
  obtain rfl := hr.len
  go_enter Tryd.func42, Tryd.ntmps42
  repeat' ((fail_if_success (with_reducible refine stop_append rfl ?_)); (fail_if_success (with_reducible refine stop_copy rfl ?_)); first | go_values | go_skip | go_guarded | go_step | go_upon | (simp only []; go_at_K))
  go_loopw [4, 12] (fun v4 v12 wr => ∃ (i : Nat) (A1 : Option Addr) (k1 c1 : Nat), i ≤ l.length ∧ v12 = .int .i64 (i : Int) ∧ v4 = .slice A1 k1 c1 ∧ OwnB 5 wr A1 k1 c1 (layB (rcs (l.take i))) ∧ Upd [] (ablk A1) w wr)
    (fun _ v12 _ => l.length - (intOf v12).toNat)
  case atStart => exact ⟨0, none, 0, 0, by omega, rfl, rfl, OwnB.nil _ _, Upd.refl _ _⟩
  case round =>
    obtain ⟨i, A1, k1, c1, hi, rfl, rfl, ho, hu⟩ := hrel
    by_cases hlt : i < l.length
    · have hrr := hr.upd hu
      obtain ⟨ad, rfl, q0, q1, q2, q3, q4⟩ := hrr.at_ hlt
      have hxm := hm l[i] (List.getElem_mem hlt)
      have hxr := hrr.each l[i] (List.getElem_mem hlt)
      have HS := Lib.hid (rcs_take hlt)
      have hbl := layB_take_le l (i + 1)
      rw [HS.out, List.length_append] at hbl
      have hxl := hxm.len
      generalize l[i] = x at *
      have hxv := x.val_eq
      have C := alogEncode x (wr.alloc (.cells #[.int .i64 x.k, .int .i64 x.s, .int .i64 x.r, .int .i64 x.t, .slice x.A x.n x.c] 44)) (hxr.alloc _) hxm
      rw [hxv] at C
      clear hxv hr hm
      repeat' ((fail_if_success (with_reducible refine stop_append rfl ?_)); (fail_if_success (with_reducible refine stop_copy rfl ?_)); first | go_values | go_skip | go_guarded | go_step | go_upon | (simp only []; go_at_K))
      ((with_reducible refine C.mono ?_); rintro e w1 ⟨A2, k2, c2, rfl, ho2, hu2⟩)
      have hu2 : Upd [] (ablk A2) wr w1 := ((Upd.refl [] wr).alloc _).trans hu2
      have ho1 := ho.upd hu2 (by simp)
      clear q0 q1 q2 q3 q4 C ho
      repeat' ((fail_if_success (with_reducible refine stop_append rfl ?_)); (fail_if_success (with_reducible refine stop_copy rfl ?_)); first | go_values | go_skip | go_guarded | go_step | go_upon | (simp only []; go_at_K))
      ((with_reducible refine (framePut w1 A2 k2 c2 _ ho2.rd (by omega)).mono ?_); rintro e w2 ⟨A3, k3, c3, rfl, ho3, hu3⟩)
      have ho1' := ho1.upd hu3 (by simp)
      have U3 : Upd [] (ablk A1) w w2 := (hu.trans (hu2.up _)).trans (hu3.up _)
      clear ho1 ho2 hu2 hu3 hu
      repeat' ((fail_if_success (with_reducible refine stop_append rfl ?_)); (fail_if_success (with_reducible refine stop_copy rfl ?_)); first | go_values | go_skip | go_guarded | go_step | go_upon | (simp only []; go_at_K))
      refine wpList_appB rfl _ _ 24 rfl 5 Tryd.underlying24 infoU8 ho1' rfl ho3.rd rfl (by omega) ?_
      intro A4 k4 c4 w4 ho4 hu4
      have U4 := U3.trans hu4
      rw [← HS.out] at ho4
      clear ho1' ho3 hu4
      repeat' ((fail_if_success (with_reducible refine stop_append rfl ?_)); (fail_if_success (with_reducible refine stop_copy rfl ?_)); first | go_values | go_skip | go_guarded | go_step | go_upon | (simp only []; go_at_K))
      exact ⟨⟨i + 1, A4, k4, c4, by omega, by simp, rfl, ho4, U4⟩, by simp [intOf]; omega⟩
    · obtain rfl : i = l.length := by omega
      rw [List.take_length] at ho
      repeat' ((fail_if_success (with_reducible refine stop_append rfl ?_)); (fail_if_success (with_reducible refine stop_copy rfl ?_)); first | go_values | go_skip | go_guarded | go_step | go_upon | (simp only []; go_at_K))
      go_ret2
      exact ⟨A1, k1, c1, rfl, ho, hu⟩
end Go.Proofs.YtdmkhmejpgjioaaDoor
