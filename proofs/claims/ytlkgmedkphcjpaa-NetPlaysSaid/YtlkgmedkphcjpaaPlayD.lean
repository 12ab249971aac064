/- agioref13.Spoil; net.Spoil's refusal. -/
import Derived.Test.YtlkgmedkphcjpaaPlayA
namespace Go.Proofs.Ytlkgmedkphcjpaa
open Go.RowKit Agio

/-- May a byte of k not be turned? -/
def Unturned (k : Nat) (p m : Int) : Prop := p < 0 ∨ (0 ≤ p ∧ (k : Int) ≤ p) ∨ (0 ≤ p ∧ p < (k : Int) ∧ m = 0)

set_option maxRecDepth 100000 in
set_option maxHeartbeats 2000000 in
theorem netSpoil_arg (w : World) (g : Nat) (A : Option Addr) (n c : Nat) (l : List Pk) (h : NetS w g A n c l) (i : Nat) (hi : i < l.length) (p m : Int) (x : Pk) (hx : l[i] = x) (hq : Unturned x.n p m) :
    Calls Try.prog 20 #[.pointer (some ⟨g, 0, none⟩), .int .i64 (i : Int), .int .i64 p, .int .u8 m] w fun e w' => e = .returned (.int .i64 1) ∧ w = w' := by
  have hn := h.len
  have hin : (i : Int) < (n : Int) := by omega
  have ht : thereB l.length (i : Int) = true := by unfold thereB; simp; omega
  have C := netThere w g A n c l h (i : Int)
  rw [ht] at C
  have q := h.blk.cell 0
  simp only [List.getElem?_toArray, List.getElem?_cons_zero] at q
  obtain ⟨ad, rfl, p0', p1'⟩ := RdS.at_ Pk.cells_len h.row.rdS hi
  rw [hx] at p0' p1'
  have p0 := p0' _ rfl
  have p1 := p1' 1 _ (by omega) rfl
  clear p0' p1'
  clear hn ht hi hx h
  rcases hq with hq | ⟨hq, hq2⟩ | ⟨hq, hq2, rfl⟩
  all_goals
    go_enter Try.func20, Try.ntmps20
    repeat' ((fail_if_success (with_reducible refine stop_append rfl ?_)); (fail_if_success (with_reducible refine stop_copy rfl ?_)); first | go_values | go_skip | go_guarded | go_step | go_upon | (simp only []; go_at_K))
    ((with_reducible refine C.mono ?_); rintro e w1 ⟨rfl, rfl⟩)
    repeat' ((fail_if_success (with_reducible refine stop_append rfl ?_)); (fail_if_success (with_reducible refine stop_copy rfl ?_)); first | go_values | go_skip | go_guarded | go_step | go_upon | (simp only []; go_at_K))
    go_ret
    exact ⟨rfl, rfl⟩

set_option maxRecDepth 100000 in
theorem refSpoil_no (w : World) (A : Option Addr) (n c : Nat) (i : Int) (p m : Int) (ht : thereB n i = false) :
    Calls Try.prog 21 #[.slice A n c, .int .i64 i, .int .i64 p, .int .u8 m] w fun e w' => e = .returned (.tuple #[.slice A n c, .int .i64 6]) ∧ w = w' := by
  have C := refHas w A n c i
  rw [ht] at C
  clear ht
  go_enter Try.func21, Try.ntmps21
  repeat' ((fail_if_success (with_reducible refine stop_append rfl ?_)); (fail_if_success (with_reducible refine stop_copy rfl ?_)); first | go_values | go_skip | go_guarded | go_step | go_upon | (simp only []; go_at_K))
  ((with_reducible refine C.mono ?_); rintro e w1 ⟨rfl, rfl⟩)
  repeat' ((fail_if_success (with_reducible refine stop_append rfl ?_)); (fail_if_success (with_reducible refine stop_copy rfl ?_)); first | go_values | go_skip | go_guarded | go_step | go_upon | (simp only []; go_at_K))
  go_ret2
  exact ⟨rfl, rfl⟩

set_option maxRecDepth 100000 in
set_option maxHeartbeats 2000000 in
theorem refSpoil_arg (w : World) (A : Option Addr) (n c : Nat) (l : List Pk) (h : RdS Pk.cells 2 w A n l) (i : Nat) (hi : i < l.length) (p m : Int) (x : Pk) (hx : l[i] = x) (hq : Unturned x.n p m) :
    Calls Try.prog 21 #[.slice A n c, .int .i64 (i : Int), .int .i64 p, .int .u8 m] w fun e w' => e = .returned (.tuple #[.slice A n c, .int .i64 1]) ∧ w = w' := by
  have hn := h.len
  have hin : (i : Int) < (n : Int) := by omega
  have ht : thereB n (i : Int) = true := by unfold thereB; simp; omega
  have C := refHas w A n c (i : Int)
  rw [ht] at C
  obtain ⟨ad, rfl, p0', p1'⟩ := RdS.at_ Pk.cells_len h hi
  rw [hx] at p0' p1'
  have p0 := p0' _ rfl
  have p1 := p1' 1 _ (by omega) rfl
  clear hn ht hi hx h p0' p1'
  rcases hq with hq | ⟨hq, hq2⟩ | ⟨hq, hq2, rfl⟩
  all_goals
    go_enter Try.func21, Try.ntmps21
    repeat' ((fail_if_success (with_reducible refine stop_append rfl ?_)); (fail_if_success (with_reducible refine stop_copy rfl ?_)); first | go_values | go_skip | go_guarded | go_step | go_upon | (simp only []; go_at_K))
    ((with_reducible refine C.mono ?_); rintro e w1 ⟨rfl, rfl⟩)
    repeat' ((fail_if_success (with_reducible refine stop_append rfl ?_)); (fail_if_success (with_reducible refine stop_copy rfl ?_)); first | go_values | go_skip | go_guarded | go_step | go_upon | (simp only []; go_at_K))
    go_ret2
    exact ⟨rfl, rfl⟩
end Go.Proofs.Ytlkgmedkphcjpaa
