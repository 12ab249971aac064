/- agioref13: packets under way, by the document: has, Send, Take, Double, First; net.First. -/
import Derived.Test.YtlkgmedkphcjpaaNetM

namespace Go.Proofs.Ytlkgmedkphcjpaa
open Go.RowKit Agio

theorem infoPk2 : (Try.prog.info? 37).map (fun i => (i.zero, i.size, i.bytes)) = some (some (.agg #[.int .i64 0, .slice none 0 0]), 2, 32) := by kernel_rfl
set_option maxRecDepth 100000 in
theorem ref08SiteB (n : Int) (w : World) : Calls Try.prog 63 #[.int .i64 n, .int .i64 7] w fun e w' => e = .returned (.bool (siteB n)) ∧ w = w' := by
  go_enter Try.func63, Try.ntmps63
  repeat' ((fail_if_success (with_reducible refine stop_append rfl ?_)); (fail_if_success (with_reducible refine stop_copy rfl ?_)); first | go_values | go_skip | go_guarded | go_step | go_upon | (simp only []; go_at_K))
  all_goals go_ret
  all_goals exact ⟨by simp [siteB, *], rfl⟩

set_option maxRecDepth 100000 in
theorem refHas (w : World) (A : Option Addr) (n c : Nat) (i : Int) : Calls Try.prog 65 #[.slice A n c, .int .i64 i] w fun e w' => e = .returned (.bool (thereB n i)) ∧ w = w' := by
  go_enter Try.func65, Try.ntmps65
  repeat' ((fail_if_success (with_reducible refine stop_append rfl ?_)); (fail_if_success (with_reducible refine stop_copy rfl ?_)); first | go_values | go_skip | go_guarded | go_step | go_upon | (simp only []; go_at_K))
  all_goals go_ret
  all_goals exact ⟨by simp [thereB, *], rfl⟩

/-- What the document's Send tells of a site. -/
def Sent13 (x : Pk) (l : List Pk) (w : World) (e : Ending) (w' : World) : Prop :=
  ∃ A' n' c', e = .returned (.tuple #[.slice A' n' c', .int .i64 0]) ∧ Own 37 2 w' A' n' c' ((l ++ [x]).flatMap Pk.cells) ∧ n' = (l ++ [x]).length ∧ Upd [] (ablk A') w w'

set_option maxRecDepth 100000 in
set_option maxHeartbeats 2000000 in
theorem refSend_no (w : World) (A : Option Addr) (n c : Nat) (to : Int) (B : Option Addr) (m d : Nat) (hs : siteB to = false) :
    Calls Try.prog 15 #[.slice A n c, .int .i64 to, .slice B m d] w fun e w' => e = .returned (.tuple #[.slice A n c, .int .i64 1]) ∧ w = w' := by
  go_enter Try.func15, Try.ntmps15
  repeat' ((fail_if_success (with_reducible refine stop_append rfl ?_)); (fail_if_success (with_reducible refine stop_copy rfl ?_)); first | go_values | go_skip | go_guarded | go_step | go_upon | (simp only []; go_at_K))
  ((with_reducible refine (ref08SiteB to _).mono ?_); rintro e w1 ⟨rfl, rfl⟩)
  repeat' ((fail_if_success (with_reducible refine stop_append rfl ?_)); (fail_if_success (with_reducible refine stop_copy rfl ?_)); first | go_values | go_skip | go_guarded | go_step | go_upon | (simp only []; go_at_K))
  go_ret2
  exact ⟨rfl, rfl⟩

set_option maxRecDepth 100000 in
set_option maxHeartbeats 2000000 in
theorem refSend (w : World) (A : Option Addr) (n c : Nat) (l : List Pk) (h : RdS Pk.cells 2 w A n l) (to : Int) (B : Option Addr) (m d : Nat) (b : List UInt8) (hs : siteB to = true) (hl : l.length < 4096) :
    Calls Try.prog 15 #[.slice A n c, .int .i64 to, .slice B m d] w (Sent13 ⟨to, B, m, d, b⟩ l w) := by
  obtain rfl := h.len
  have hnl : (l.length : Int) < 4096 := by omega
  go_enter Try.func15, Try.ntmps15
  repeat' ((fail_if_success (with_reducible refine stop_append rfl ?_)); (fail_if_success (with_reducible refine stop_copy rfl ?_)); first | go_values | go_skip | go_guarded | go_step | go_upon | (simp only []; go_at_K))
  ((with_reducible refine (ref08SiteB to _).mono ?_); rintro e w1 ⟨rfl, rfl⟩)
  repeat' ((fail_if_success (with_reducible refine stop_append rfl ?_)); (fail_if_success (with_reducible refine stop_copy rfl ?_)); first | go_values | go_skip | go_guarded | go_step | go_upon | (simp only []; go_at_K))
  refine wpList_app _ rfl _ _ 26 rfl 37 Try.underlying26 infoPk2 rfl (by decide) (Own.made 37 2 w) rfl (h.rd.alloc _) rfl (Pk.one l) (by unfold maxLen; omega) (by omega) ?_
  intro A1 c1 w1 ho1 hu1
  rw [Nat.zero_add] at ho1
  have U1 : Upd [] (ablk A1) w w1 := (((Upd.refl [] w).alloc (.cells #[] 37)).gives (b' := ablk (some ⟨w.heap.size, 0, none⟩)) (by intro k hk; simp [ablk] at hk; subst hk; exact .inr (Nat.le_refl _))).trans hu1
  clear hu1
  repeat' ((fail_if_success (with_reducible refine stop_append rfl ?_)); (fail_if_success (with_reducible refine stop_copy rfl ?_)); first | go_values | go_skip | go_guarded | go_step | go_upon | (simp only []; go_at_K))
  refine wpList_push rfl _ _ 26 rfl 37 Try.underlying26 infoPk2 rfl (by decide) ho1 rfl _ rfl (news := [.int .i64 to, .slice B m d]) rfl rfl rfl (by unfold maxLen; omega) (by omega) ?_
  intro A2 c2 w2 ho2 hu2
  repeat' ((fail_if_success (with_reducible refine stop_append rfl ?_)); (fail_if_success (with_reducible refine stop_copy rfl ?_)); first | go_values | go_skip | go_guarded | go_step | go_upon | (simp only []; go_at_K))
  go_ret2
  exact ⟨A2, _, c2, rfl, by simpa [Pk.cells] using ho2, by simp, U1.trans hu2⟩
end Go.Proofs.Ytlkgmedkphcjpaa
