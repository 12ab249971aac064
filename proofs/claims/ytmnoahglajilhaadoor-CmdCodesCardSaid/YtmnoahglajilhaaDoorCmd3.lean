/- (agio/cmd).May. -/
import Derived.Test.YtmnoahglajilhaaDoorCmd2
namespace Go.Proofs.YtmnoahglajilhaaDoor
open Go.RowKit Agio

theorem cmdFields (k cl sq tm s a p q i : Int) (w : World) :
    Calls Tryd.prog 37 #[.agg #[.int .i64 k, .int .i64 cl, .int .i64 sq, .int .i64 tm, .int .i64 s, .int .i64 a, .int .i64 p, .int .i64 q, .int .i64 i]] w fun e w' => e = .returned (.bool (flds k s a p q i)) ∧ Upd [] [] w w' := by
  by_cases hk : k < 0 ∨ 11 < k
  · exact fields_other k hk cl sq tm s a p q i w
  · have : k = 0 ∨ k = 1 ∨ k = 2 ∨ k = 3 ∨ k = 4 ∨ k = 5 ∨ k = 6 ∨ k = 7 ∨ k = 8 ∨ k = 9 ∨ k = 10 ∨ k = 11 := by omega
    rcases this with rfl | rfl | rfl | rfl | rfl | rfl | rfl | rfl | rfl | rfl | rfl | rfl
    · exact fields_k0 cl sq tm s a p q i w
    · exact fields_k1 cl sq tm s a p q i w
    · exact fields_k2 cl sq tm s a p q i w
    · exact fields_k3 cl sq tm s a p q i w
    · exact fields_k4 cl sq tm s a p q i w
    · exact fields_k5 cl sq tm s a p q i w
    · exact fields_k6 cl sq tm s a p q i w
    · exact fields_k7 cl sq tm s a p q i w
    · exact fields_k8 cl sq tm s a p q i w
    · exact fields_k9 cl sq tm s a p q i w
    · exact fields_k10 cl sq tm s a p q i w
    · exact fields_k11 cl sq tm s a p q i w

/-- A command. -/
structure Cm where
  k : Int
  cl : Int
  sq : Int
  tm : Int
  s : Int
  a : Int
  p : Int
  q : Int
  i : Int
def Cm.val (c : Cm) : Value := .agg #[.int .i64 c.k, .int .i64 c.cl, .int .i64 c.sq, .int .i64 c.tm, .int .i64 c.s, .int .i64 c.a, .int .i64 c.p, .int .i64 c.q, .int .i64 c.i]
/-- May a command be? -/
def Cm.may (c : Cm) : Bool := wi c.cl 1 64 && wi c.sq 1 1099511627776 && wi c.tm 0 1099511627776 && flds c.k c.s c.a c.p c.q c.i
/-- The number of the error of one that may not be. -/
def Cm.err (c : Cm) : Int := if c.may then 0 else 1
theorem Cm.err_of {c : Cm} {b : Bool} (h : c.may = b) : c.err = if b then 0 else 1 := by unfold Cm.err; rw [h]

set_option maxRecDepth 100000 in
set_option maxHeartbeats 4000000 in
theorem cmdMay (c : Cm) (w : World) :
    Calls Tryd.prog 11 #[c.val] w fun e w' => e = .returned (.int .i64 c.err) ∧ Upd [] [] w w' := by
  obtain ⟨k, cl, sq, tm, s, a, p, q, i⟩ := c
  have E : Hid (∀ b, (wi cl 1 64 && wi sq 1 1099511627776 && wi tm 0 1099511627776 && flds k s a p q i) = b → (Cm.mk k cl sq tm s a p q i).err = if b then 0 else 1) := fun b h => Cm.err_of h
  simp only [Cm.val]
  have C := cmdFields k cl sq tm s a p q i
  go_enter Tryd.func11, Tryd.ntmps11
  repeat' ((fail_if_success (with_reducible refine stop_append rfl ?_)); (fail_if_success (with_reducible refine stop_copy rfl ?_)); first | go_values | go_skip | go_guarded | go_step | go_upon | (simp only []; go_at_K))
  refine (cmdWithin cl 1 64 _).mono ?_
  rintro e w1 ⟨rfl, rfl⟩
  generalize wi cl 1 64 = b1 at *
  cases b1
  · have E1 : Hid (Cm.err (Cm.mk k cl sq tm s a p q i) = 1) := E.out false (by simp)
    repeat' ((fail_if_success (with_reducible refine stop_append rfl ?_)); (fail_if_success (with_reducible refine stop_copy rfl ?_)); first | go_values | go_skip | go_guarded | go_step | go_upon | (simp only []; go_at_K))
    go_ret
    exact ⟨by rw [E1.out]; rfl, (Upd.refl _ _).alloc _⟩
  repeat' ((fail_if_success (with_reducible refine stop_append rfl ?_)); (fail_if_success (with_reducible refine stop_copy rfl ?_)); first | go_values | go_skip | go_guarded | go_step | go_upon | (simp only []; go_at_K))
  refine (cmdWithin sq 1 1099511627776 _).mono ?_
  rintro e w1 ⟨rfl, rfl⟩
  generalize wi sq 1 1099511627776 = b2 at *
  cases b2
  · have E1 : Hid (Cm.err (Cm.mk k cl sq tm s a p q i) = 1) := E.out false (by simp)
    repeat' ((fail_if_success (with_reducible refine stop_append rfl ?_)); (fail_if_success (with_reducible refine stop_copy rfl ?_)); first | go_values | go_skip | go_guarded | go_step | go_upon | (simp only []; go_at_K))
    go_ret
    exact ⟨by rw [E1.out]; rfl, (Upd.refl _ _).alloc _⟩
  repeat' ((fail_if_success (with_reducible refine stop_append rfl ?_)); (fail_if_success (with_reducible refine stop_copy rfl ?_)); first | go_values | go_skip | go_guarded | go_step | go_upon | (simp only []; go_at_K))
  refine (cmdWithin tm 0 1099511627776 _).mono ?_
  rintro e w1 ⟨rfl, rfl⟩
  generalize wi tm 0 1099511627776 = b3 at *
  cases b3
  · have E1 : Hid (Cm.err (Cm.mk k cl sq tm s a p q i) = 1) := E.out false (by simp)
    repeat' ((fail_if_success (with_reducible refine stop_append rfl ?_)); (fail_if_success (with_reducible refine stop_copy rfl ?_)); first | go_values | go_skip | go_guarded | go_step | go_upon | (simp only []; go_at_K))
    go_ret
    exact ⟨by rw [E1.out]; rfl, (Upd.refl _ _).alloc _⟩
  repeat' ((fail_if_success (with_reducible refine stop_append rfl ?_)); (fail_if_success (with_reducible refine stop_copy rfl ?_)); first | go_values | go_skip | go_guarded | go_step | go_upon | (simp only []; go_at_K))
  refine (C _).mono ?_
  rintro e w1 ⟨rfl, hu1⟩
  clear C
  generalize flds k s a p q i = b4 at *
  cases b4
  · have E1 : Hid (Cm.err (Cm.mk k cl sq tm s a p q i) = 1) := E.out false (by simp)
    repeat' ((fail_if_success (with_reducible refine stop_append rfl ?_)); (fail_if_success (with_reducible refine stop_copy rfl ?_)); first | go_values | go_skip | go_guarded | go_step | go_upon | (simp only []; go_at_K))
    go_ret
    exact ⟨by rw [E1.out]; rfl, ((Upd.refl _ _).alloc _).trans hu1⟩
  · have E1 : Hid (Cm.err (Cm.mk k cl sq tm s a p q i) = 0) := E.out true (by simp)
    repeat' ((fail_if_success (with_reducible refine stop_append rfl ?_)); (fail_if_success (with_reducible refine stop_copy rfl ?_)); first | go_values | go_skip | go_guarded | go_step | go_upon | (simp only []; go_at_K))
    go_ret
    exact ⟨by rw [E1.out]; rfl, ((Upd.refl _ _).alloc _).trans hu1⟩
end Go.Proofs.YtmnoahglajilhaaDoor
