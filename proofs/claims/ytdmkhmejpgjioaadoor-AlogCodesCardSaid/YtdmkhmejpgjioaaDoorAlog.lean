/- Records: (agio/alog).may, lay, Encode. -/
import Derived.Test.YtdmkhmejpgjioaaDoorFrame4
import Derived.Test.YtdmkhmejpgjioaaDoorPlainAlog
set_option linter.all false
namespace Go.Proofs.YtdmkhmejpgjioaaDoor
open Go.RowKit Agio

/-- A record as a value. -/
structure Rv where
  k : Int
  s : Int
  r : Int
  t : Int
  A : Option Addr
  n : Nat
  c : Nat
  b : List UInt8
def Rv.cells (x : Rv) : List Value := [.int .i64 x.k, .int .i64 x.s, .int .i64 x.r, .int .i64 x.t, .slice x.A x.n x.c]
def Rv.val (x : Rv) : Value := .agg x.cells.toArray
def Rv.rc (x : Rv) : Rc := ⟨x.k, x.s, x.r, x.t, x.b⟩
theorem Rv.val_eq (x : Rv) : x.val = .agg #[.int .i64 x.k, .int .i64 x.s, .int .i64 x.r, .int .i64 x.t, .slice x.A x.n x.c] := rfl
theorem Rv.cells_len (x : Rv) : x.cells.length = 5 := rfl
theorem may_no {r : Rc} (h : ¬ r.May) : (r.slot < 0 ∨ 4096 ≤ r.slot) ∨ (0 ≤ r.slot ∧ r.slot < 4096) ∧ ((r.round < 0 ∨ 1099511627776 < r.round) ∨ (0 ≤ r.round ∧ r.round ≤ 1099511627776) ∧ ((r.site < 0 ∨ 7 ≤ r.site) ∨ (0 ≤ r.site ∧ r.site < 7) ∧ (r.kind = 1 ∧ ¬ r.val.length = 0 ∨ ¬ r.kind = 1 ∧ ¬ r.kind = 2 ∨ ¬ r.kind = 1 ∧ r.kind = 2 ∧ 2048 < r.val.length))) := by
  by_cases h1 : r.slot < 0 ∨ 4096 ≤ r.slot
  · exact .inl h1
  refine .inr ⟨by omega, ?_⟩
  by_cases h2 : r.round < 0 ∨ 1099511627776 < r.round
  · exact .inl h2
  refine .inr ⟨by omega, ?_⟩
  by_cases h3 : r.site < 0 ∨ 7 ≤ r.site
  · exact .inl h3
  refine .inr ⟨by omega, ?_⟩
  by_cases h4 : r.kind = 1
  · refine .inl ⟨h4, fun h5 => h ⟨.inl ⟨h4, h5⟩, by omega, by omega, by omega, by omega⟩⟩
  · by_cases h5 : r.kind = 2
    · refine .inr (.inr ⟨h4, h5, ?_⟩)
      rcases Nat.lt_or_ge 2048 r.val.length with h6 | h6
      · exact h6
      · exact absurd ⟨.inr h5, by omega, by omega, by omega, h6⟩ h
    · exact .inr (.inl ⟨h4, h5⟩)

set_option maxRecDepth 100000 in
set_option maxHeartbeats 2000000 in
theorem alogMay_yes (x : Rv) (w : World) (hr : RdB w x.A x.n x.b) (hm : x.rc.May) :
    Calls Tryd.prog 45 #[x.val] w fun e w' => e = .returned (.bool true) ∧ Upd [] [] w w' := by
  obtain ⟨k, s, r, t, A, n, c, b⟩ := x
  obtain ⟨h1, ⟨h2, h2'⟩, ⟨h3, h3'⟩, ⟨h4, h4'⟩, h5⟩ := hm
  simp only [Rv.rc] at h1 h2 h2' h3 h3' h4 h4' h5
  have hn := hr.len
  simp only at hn
  have g2 : s < 4096 := by omega
  have g4 : t < 7 := by omega
  clear h2' h4'
  rw [Rv.val_eq]
  rcases h1 with ⟨rfl, h6⟩ | rfl
  · obtain rfl : n = 0 := by omega
    clear hn hr h6 h5
    go_enter Tryd.func45, Tryd.ntmps45
    repeat' ((fail_if_success (with_reducible refine stop_append rfl ?_)); (fail_if_success (with_reducible refine stop_copy rfl ?_)); first | go_values | go_skip | go_guarded | go_step | go_upon | (simp only []; go_at_K))
    go_ret
    exact ⟨rfl, (Upd.refl _ _).alloc _⟩
  · have hnl : (n : Int) ≤ 2048 := by omega
    clear hn hr h5
    go_enter Tryd.func45, Tryd.ntmps45
    repeat' ((fail_if_success (with_reducible refine stop_append rfl ?_)); (fail_if_success (with_reducible refine stop_copy rfl ?_)); first | go_values | go_skip | go_guarded | go_step | go_upon | (simp only []; go_at_K))
    go_ret
    exact ⟨rfl, (Upd.refl _ _).alloc _⟩

set_option maxRecDepth 100000 in
set_option maxHeartbeats 4000000 in
theorem alogMay_no (x : Rv) (w : World) (hr : RdB w x.A x.n x.b) (hm : ¬ x.rc.May) :
    Calls Tryd.prog 45 #[x.val] w fun e w' => e = .returned (.bool false) ∧ Upd [] [] w w' := by
  obtain ⟨k, s, r, t, A, n, c, b⟩ := x
  have hn := hr.len
  have hm := may_no hm
  simp only [Rv.rc] at hm hn
  rw [Rv.val_eq]
  rcases hm with h1 | ⟨⟨h1, h1'⟩, h2 | ⟨⟨h2, h2'⟩, h3 | ⟨⟨h3, h3'⟩, h4 | h4 | h4⟩⟩⟩
  · clear hn hr
    rcases h1 with h1 | h1
    · go_enter Tryd.func45, Tryd.ntmps45
      repeat' ((fail_if_success (with_reducible refine stop_append rfl ?_)); (fail_if_success (with_reducible refine stop_copy rfl ?_)); first | go_values | go_skip | go_guarded | go_step | go_upon | (simp only []; go_at_K))
      go_ret
      exact ⟨rfl, (Upd.refl _ _).alloc _⟩
    · have h0 : 0 ≤ s := by omega
      go_enter Tryd.func45, Tryd.ntmps45
      repeat' ((fail_if_success (with_reducible refine stop_append rfl ?_)); (fail_if_success (with_reducible refine stop_copy rfl ?_)); first | go_values | go_skip | go_guarded | go_step | go_upon | (simp only []; go_at_K))
      go_ret
      exact ⟨rfl, (Upd.refl _ _).alloc _⟩
  · clear hn hr
    rcases h2 with h2 | h2
    · go_enter Tryd.func45, Tryd.ntmps45
      repeat' ((fail_if_success (with_reducible refine stop_append rfl ?_)); (fail_if_success (with_reducible refine stop_copy rfl ?_)); first | go_values | go_skip | go_guarded | go_step | go_upon | (simp only []; go_at_K))
      go_ret
      exact ⟨rfl, (Upd.refl _ _).alloc _⟩
    · have h0 : 0 ≤ r := by omega
      go_enter Tryd.func45, Tryd.ntmps45
      repeat' ((fail_if_success (with_reducible refine stop_append rfl ?_)); (fail_if_success (with_reducible refine stop_copy rfl ?_)); first | go_values | go_skip | go_guarded | go_step | go_upon | (simp only []; go_at_K))
      go_ret
      exact ⟨rfl, (Upd.refl _ _).alloc _⟩
  · clear hn hr
    rcases h3 with h3 | h3
    · go_enter Tryd.func45, Tryd.ntmps45
      repeat' ((fail_if_success (with_reducible refine stop_append rfl ?_)); (fail_if_success (with_reducible refine stop_copy rfl ?_)); first | go_values | go_skip | go_guarded | go_step | go_upon | (simp only []; go_at_K))
      go_ret
      exact ⟨rfl, (Upd.refl _ _).alloc _⟩
    · have h0 : 0 ≤ t := by omega
      go_enter Tryd.func45, Tryd.ntmps45
      repeat' ((fail_if_success (with_reducible refine stop_append rfl ?_)); (fail_if_success (with_reducible refine stop_copy rfl ?_)); first | go_values | go_skip | go_guarded | go_step | go_upon | (simp only []; go_at_K))
      go_ret
      exact ⟨rfl, (Upd.refl _ _).alloc _⟩
  · obtain ⟨rfl, h5⟩ := h4
    have h6 : ((n : Int) == 0) = false := by simp; omega
    clear hn hr h5
    go_enter Tryd.func45, Tryd.ntmps45
    repeat' ((fail_if_success (with_reducible refine stop_append rfl ?_)); (fail_if_success (with_reducible refine stop_copy rfl ?_)); first | go_values | go_skip | go_guarded | go_step | go_upon | (simp only []; go_at_K))
    go_ret
    exact ⟨rfl, (Upd.refl _ _).alloc _⟩
  · obtain ⟨h5, h6⟩ := h4
    have h5' : (k == 1) = false := by simp [h5]
    have h6' : (k == 2) = false := by simp [h6]
    clear hn hr h5 h6
    go_enter Tryd.func45, Tryd.ntmps45
    repeat' ((fail_if_success (with_reducible refine stop_append rfl ?_)); (fail_if_success (with_reducible refine stop_copy rfl ?_)); first | go_values | go_skip | go_guarded | go_step | go_upon | (simp only []; go_at_K))
    go_ret
    exact ⟨rfl, (Upd.refl _ _).alloc _⟩
  · obtain ⟨h5, rfl, h6⟩ := h4
    have h6' : decide ((n : Int) ≤ 2048) = false := by simp; omega
    clear hn hr h5 h6
    go_enter Tryd.func45, Tryd.ntmps45
    repeat' ((fail_if_success (with_reducible refine stop_append rfl ?_)); (fail_if_success (with_reducible refine stop_copy rfl ?_)); first | go_values | go_skip | go_guarded | go_step | go_upon | (simp only []; go_at_K))
    go_ret
    exact ⟨rfl, (Upd.refl _ _).alloc _⟩
end Go.Proofs.YtdmkhmejpgjioaaDoor
