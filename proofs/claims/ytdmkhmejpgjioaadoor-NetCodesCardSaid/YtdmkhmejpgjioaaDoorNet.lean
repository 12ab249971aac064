/- Messages: (agio/net).isSite, may; (agio/ballot).site, May; ballots compared. (Printed by gen_net.py.) -/
import Derived.Test.YtdmkhmejpgjioaaDoorFrame4
import Derived.Test.YtdmkhmejpgjioaaDoorPlainNet
import Derived.Laws.StructEq
set_option linter.all false
namespace Go.Proofs.YtdmkhmejpgjioaaDoor
open Go.RowKit Agio

/-- A message as a value. -/
structure Mv where
  k : Int
  f : Int
  t : Int
  s : Int
  br : Int
  bs : Int
  hr : Int
  hs : Int
  so : Bool
  A : Option Addr
  n : Nat
  c : Nat
  b : List UInt8
def Mv.cells (x : Mv) : List Value := [.int .i64 x.k, .int .i64 x.f, .int .i64 x.t, .int .i64 x.s, .int .i64 x.br, .int .i64 x.bs, .int .i64 x.hr, .int .i64 x.hs, .bool x.so, .slice x.A x.n x.c]
def Mv.val (x : Mv) : Value := .agg x.cells.toArray
theorem Mv.val_eq (x : Mv) : x.val = .agg #[.int .i64 x.k, .int .i64 x.f, .int .i64 x.t, .int .i64 x.s, .int .i64 x.br, .int .i64 x.bs, .int .i64 x.hr, .int .i64 x.hs, .bool x.so, .slice x.A x.n x.c] := rfl
def Mv.ms (x : Mv) : Ms := ⟨x.k, x.f, x.t, x.s, x.br, x.bs, x.hr, x.hs, x.so, x.b⟩

/-- Is a number a site of seven? -/
def siteB (n : Int) : Bool := decide (0 ≤ n) && decide (n < 7)
theorem siteB_yes {n : Int} (h : 0 ≤ n ∧ n ≤ 6) : siteB n = true := by unfold siteB; simp; omega
theorem siteB_no {n : Int} (h : ¬ (0 ≤ n ∧ n ≤ 6)) : siteB n = false := by unfold siteB; simp; omega
def balB (r s : Int) : Bool := decide (0 ≤ r) && decide (r ≤ 1099511627776) && siteB s
theorem balB_yes {r s : Int} (h : 0 ≤ r ∧ r ≤ 1099511627776) (h2 : 0 ≤ s ∧ s ≤ 6) : balB r s = true := by unfold balB siteB; simp; omega
theorem balB_no {r s : Int} (h : ¬ ((0 ≤ r ∧ r ≤ 1099511627776) ∧ 0 ≤ s ∧ s ≤ 6)) : balB r s = false := by unfold balB siteB; simp; omega

set_option maxRecDepth 100000 in
theorem netSite (n : Int) (w : World) : Calls Tryd.prog 79 #[.int .i64 n] w fun e w' => e = .returned (.bool (siteB n)) ∧ w = w' := by
  go_enter Tryd.func79, Tryd.ntmps79
  repeat' ((fail_if_success (with_reducible refine stop_append rfl ?_)); (fail_if_success (with_reducible refine stop_copy rfl ?_)); first | go_values | go_skip | go_guarded | go_step | go_upon | (simp only []; go_at_K))
  all_goals go_ret
  all_goals exact ⟨by simp [siteB, *], rfl⟩
set_option maxRecDepth 100000 in
theorem ballotSite (n : Int) (w : World) : Calls Tryd.prog 100 #[.int .i64 n, .int .i64 7] w fun e w' => e = .returned (.bool (siteB n)) ∧ w = w' := by
  go_enter Tryd.func100, Tryd.ntmps100
  repeat' ((fail_if_success (with_reducible refine stop_append rfl ?_)); (fail_if_success (with_reducible refine stop_copy rfl ?_)); first | go_values | go_skip | go_guarded | go_step | go_upon | (simp only []; go_at_K))
  all_goals go_ret
  all_goals exact ⟨by simp [siteB, *], rfl⟩
set_option maxRecDepth 100000 in
set_option maxHeartbeats 1000000 in
theorem ballotMay (r s : Int) (w : World) : Calls Tryd.prog 81 #[.agg #[.int .i64 r, .int .i64 s], .int .i64 7] w fun e w' => e = .returned (.bool (balB r s)) ∧ Upd [] [] w w' := by
  by_cases h0 : 0 ≤ r
  · by_cases h1 : r ≤ 1099511627776
    · have HB : Hid (balB r s = siteB s) := by unfold Hid balB; simp [h0, h1]
      go_enter Tryd.func81, Tryd.ntmps81
      repeat' ((fail_if_success (with_reducible refine stop_append rfl ?_)); (fail_if_success (with_reducible refine stop_copy rfl ?_)); first | go_values | go_skip | go_guarded | go_step | go_upon | (simp only []; go_at_K))
      ((with_reducible refine (ballotSite s _).mono ?_); rintro e w1 ⟨rfl, rfl⟩)
      repeat' ((fail_if_success (with_reducible refine stop_append rfl ?_)); (fail_if_success (with_reducible refine stop_copy rfl ?_)); first | go_values | go_skip | go_guarded | go_step | go_upon | (simp only []; go_at_K))
      go_ret
      exact ⟨by rw [HB.out]; rfl, (Upd.refl _ _).alloc _⟩
    · have HB : Hid (balB r s = false) := balB_no (by omega)
      have h1' : 1099511627776 < r := by omega
      go_enter Tryd.func81, Tryd.ntmps81
      repeat' ((fail_if_success (with_reducible refine stop_append rfl ?_)); (fail_if_success (with_reducible refine stop_copy rfl ?_)); first | go_values | go_skip | go_guarded | go_step | go_upon | (simp only []; go_at_K))
      go_ret
      exact ⟨by rw [HB.out]; rfl, (Upd.refl _ _).alloc _⟩
  · have HB : Hid (balB r s = false) := balB_no (by omega)
    have h0' : r < 0 := by omega
    go_enter Tryd.func81, Tryd.ntmps81
    repeat' ((fail_if_success (with_reducible refine stop_append rfl ?_)); (fail_if_success (with_reducible refine stop_copy rfl ?_)); first | go_values | go_skip | go_guarded | go_step | go_upon | (simp only []; go_at_K))
    go_ret
    exact ⟨by rw [HB.out]; rfl, (Upd.refl _ _).alloc _⟩
theorem eqBal (a b c d : Int) (w : World) : (binOp .eql 42 (.agg #[.int .i64 a, .int .i64 b]) (.agg #[.int .i64 c, .int .i64 d])).run Tryd.prog w = .ok (.bool ((a == c) && (b == d))) w := by
  rw [run_eql_struct, show (10000 : Nat) = 9999 + 1 from rfl]
  rw [run_equalIn_struct w _ _ _ _ (by kernel_rfl) (by kernel_rfl)]
  rw [show Tryd.prog.fieldsOf 42 = _ from by unfold Program.fieldsOf; rw [Tryd.underlying42]]
  have p0 := fun (x y : Int) (w : World) => show (part 3 #[.int .i64 x, .int .i64 y] 0).run Tryd.prog w = .ok (.int .i64 x) w by kernel_rfl
  have p1 := fun (x y : Int) (w : World) => show (part 3 #[.int .i64 x, .int .i64 y] 1).run Tryd.prog w = .ok (.int .i64 y) w by kernel_rfl
  have e0 := fun (a b : Int) (w : World) => show (Op.equalIn 9999 3 (.int .i64 a) (.int .i64 b)).run Tryd.prog w = .ok (a == b) w by kernel_rfl
  simp only [Op.eqFields, Sem.run_bind, p0, p1, e0, Result.andThen_ok, ne_eq, String.reduceEq, not_false_eq_true, if_true, Sem.run_ite, Sem.run_pure]
  cases a == c
  · rfl
  cases b == d <;> rfl

theorem netMay_cases {m : Ms} (h : ¬ m.May) : (m.kind < 1 ∨ 8 < m.kind) ∨ (1 ≤ m.kind ∧ m.kind ≤ 8) ∧ (¬ (0 ≤ m.frm ∧ m.frm ≤ 6) ∨ (0 ≤ m.frm ∧ m.frm ≤ 6) ∧ (¬ (0 ≤ m.to ∧ m.to ≤ 6) ∨ (0 ≤ m.to ∧ m.to ≤ 6) ∧
    ((m.slot < 0 ∨ 4096 ≤ m.slot) ∨ (0 ≤ m.slot ∧ m.slot < 4096) ∧ (2048 < m.val.length ∨ m.val.length ≤ 2048 ∧
    (¬ ((0 ≤ m.bround ∧ m.bround ≤ 1099511627776) ∧ 0 ≤ m.bsite ∧ m.bsite ≤ 6) ∨ ((0 ≤ m.bround ∧ m.bround ≤ 1099511627776) ∧ 0 ≤ m.bsite ∧ m.bsite ≤ 6) ∧
    (¬ ((0 ≤ m.hround ∧ m.hround ≤ 1099511627776) ∧ 0 ≤ m.hsite ∧ m.hsite ≤ 6) ∨ ((0 ≤ m.hround ∧ m.hround ≤ 1099511627776) ∧ 0 ≤ m.hsite ∧ m.hsite ≤ 6) ∧
    m.some_ = false ∧ (¬ (m.hround = 0 ∧ m.hsite = 0) ∨ (m.hround = 0 ∧ m.hsite = 0) ∧ ¬ m.val.length = 0))))))) := by
  by_cases h1 : m.kind < 1 ∨ 8 < m.kind
  · exact .inl h1
  refine .inr ⟨by omega, ?_⟩
  by_cases h2 : ¬ (0 ≤ m.frm ∧ m.frm ≤ 6)
  · exact .inl h2
  have h2 := Classical.not_not.1 h2
  refine .inr ⟨h2, ?_⟩
  by_cases h3 : ¬ (0 ≤ m.to ∧ m.to ≤ 6)
  · exact .inl h3
  have h3 := Classical.not_not.1 h3
  refine .inr ⟨h3, ?_⟩
  by_cases h4 : m.slot < 0 ∨ 4096 ≤ m.slot
  · exact .inl h4
  refine .inr ⟨by omega, ?_⟩
  by_cases h5 : 2048 < m.val.length
  · exact .inl h5
  refine .inr ⟨by omega, ?_⟩
  by_cases h6 : ¬ ((0 ≤ m.bround ∧ m.bround ≤ 1099511627776) ∧ 0 ≤ m.bsite ∧ m.bsite ≤ 6)
  · exact .inl h6
  have h6 := Classical.not_not.1 h6
  refine .inr ⟨h6, ?_⟩
  by_cases h7 : ¬ ((0 ≤ m.hround ∧ m.hround ≤ 1099511627776) ∧ 0 ≤ m.hsite ∧ m.hsite ≤ 6)
  · exact .inl h7
  have h7 := Classical.not_not.1 h7
  refine .inr ⟨h7, ?_⟩
  cases h8 : m.some_
  · refine ⟨rfl, ?_⟩
    by_cases h9 : m.hround = 0 ∧ m.hsite = 0
    · refine .inr ⟨h9, fun h10 => h ⟨by omega, h2, h3, by omega, h6.1, h6.2, h7.1, h7.2, by omega, .inr ⟨h9, h10⟩⟩⟩
    · exact .inl h9
  · exact absurd ⟨by omega, h2, h3, by omega, h6.1, h6.2, h7.1, h7.2, by omega, .inl h8⟩ h

set_option maxRecDepth 100000 in
set_option maxHeartbeats 4000000 in
theorem netMay_k (k f t s br bs hr hs : Int) (so : Bool) (A : Option Addr) (n c : Nat) (w : World) (h : k < 1 ∨ 8 < k) :
    Calls Tryd.prog 57 #[.agg #[.int .i64 k, .int .i64 f, .int .i64 t, .int .i64 s, .int .i64 br, .int .i64 bs, .int .i64 hr, .int .i64 hs, .bool so, .slice A n c]] w fun e w' => e = .returned (.bool false) ∧ Upd [] [] w w' := by
  rcases h with h | h
  · go_enter Tryd.func57, Tryd.ntmps57
    repeat' ((fail_if_success (with_reducible refine stop_append rfl ?_)); (fail_if_success (with_reducible refine stop_copy rfl ?_)); first | go_values | go_skip | go_guarded | go_step | go_upon | (simp only []; go_at_K))
    go_ret
    exact ⟨rfl, ((Upd.refl _ _).alloc _)⟩
  · have k1 : 1 ≤ k := by omega
    go_enter Tryd.func57, Tryd.ntmps57
    repeat' ((fail_if_success (with_reducible refine stop_append rfl ?_)); (fail_if_success (with_reducible refine stop_copy rfl ?_)); first | go_values | go_skip | go_guarded | go_step | go_upon | (simp only []; go_at_K))
    go_ret
    exact ⟨rfl, ((Upd.refl _ _).alloc _)⟩

set_option maxRecDepth 100000 in
set_option maxHeartbeats 4000000 in
theorem netMay_f (k f t s br bs hr hs : Int) (so : Bool) (A : Option Addr) (n c : Nat) (w : World) (k1 : 1 ≤ k) (k8 : k ≤ 8) (hf : siteB f = false) :
    Calls Tryd.prog 57 #[.agg #[.int .i64 k, .int .i64 f, .int .i64 t, .int .i64 s, .int .i64 br, .int .i64 bs, .int .i64 hr, .int .i64 hs, .bool so, .slice A n c]] w fun e w' => e = .returned (.bool false) ∧ Upd [] [] w w' := by
  go_enter Tryd.func57, Tryd.ntmps57
  repeat' ((fail_if_success (with_reducible refine stop_append rfl ?_)); (fail_if_success (with_reducible refine stop_copy rfl ?_)); first | go_values | go_skip | go_guarded | go_step | go_upon | (simp only []; go_at_K))
  ((with_reducible refine (netSite f _).mono ?_); rintro e w' ⟨rfl, rfl⟩)
  repeat' ((fail_if_success (with_reducible refine stop_append rfl ?_)); (fail_if_success (with_reducible refine stop_copy rfl ?_)); first | go_values | go_skip | go_guarded | go_step | go_upon | (simp only []; go_at_K))
  go_ret
  exact ⟨rfl, ((Upd.refl _ _).alloc _)⟩

set_option maxRecDepth 100000 in
set_option maxHeartbeats 4000000 in
theorem netMay_t (k f t s br bs hr hs : Int) (so : Bool) (A : Option Addr) (n c : Nat) (w : World) (k1 : 1 ≤ k) (k8 : k ≤ 8) (hf : siteB f = true) (ht : siteB t = false) :
    Calls Tryd.prog 57 #[.agg #[.int .i64 k, .int .i64 f, .int .i64 t, .int .i64 s, .int .i64 br, .int .i64 bs, .int .i64 hr, .int .i64 hs, .bool so, .slice A n c]] w fun e w' => e = .returned (.bool false) ∧ Upd [] [] w w' := by
  go_enter Tryd.func57, Tryd.ntmps57
  repeat' ((fail_if_success (with_reducible refine stop_append rfl ?_)); (fail_if_success (with_reducible refine stop_copy rfl ?_)); first | go_values | go_skip | go_guarded | go_step | go_upon | (simp only []; go_at_K))
  ((with_reducible refine (netSite f _).mono ?_); rintro e w' ⟨rfl, rfl⟩)
  repeat' ((fail_if_success (with_reducible refine stop_append rfl ?_)); (fail_if_success (with_reducible refine stop_copy rfl ?_)); first | go_values | go_skip | go_guarded | go_step | go_upon | (simp only []; go_at_K))
  ((with_reducible refine (netSite t _).mono ?_); rintro e w' ⟨rfl, rfl⟩)
  repeat' ((fail_if_success (with_reducible refine stop_append rfl ?_)); (fail_if_success (with_reducible refine stop_copy rfl ?_)); first | go_values | go_skip | go_guarded | go_step | go_upon | (simp only []; go_at_K))
  go_ret
  exact ⟨rfl, ((Upd.refl _ _).alloc _)⟩

set_option maxRecDepth 100000 in
set_option maxHeartbeats 4000000 in
theorem netMay_s (k f t s br bs hr hs : Int) (so : Bool) (A : Option Addr) (n c : Nat) (w : World) (k1 : 1 ≤ k) (k8 : k ≤ 8) (hf : siteB f = true) (ht : siteB t = true) (h : s < 0 ∨ 4096 ≤ s) :
    Calls Tryd.prog 57 #[.agg #[.int .i64 k, .int .i64 f, .int .i64 t, .int .i64 s, .int .i64 br, .int .i64 bs, .int .i64 hr, .int .i64 hs, .bool so, .slice A n c]] w fun e w' => e = .returned (.bool false) ∧ Upd [] [] w w' := by
  rcases h with h | h
  · go_enter Tryd.func57, Tryd.ntmps57
    repeat' ((fail_if_success (with_reducible refine stop_append rfl ?_)); (fail_if_success (with_reducible refine stop_copy rfl ?_)); first | go_values | go_skip | go_guarded | go_step | go_upon | (simp only []; go_at_K))
    ((with_reducible refine (netSite f _).mono ?_); rintro e w' ⟨rfl, rfl⟩)
    repeat' ((fail_if_success (with_reducible refine stop_append rfl ?_)); (fail_if_success (with_reducible refine stop_copy rfl ?_)); first | go_values | go_skip | go_guarded | go_step | go_upon | (simp only []; go_at_K))
    ((with_reducible refine (netSite t _).mono ?_); rintro e w' ⟨rfl, rfl⟩)
    repeat' ((fail_if_success (with_reducible refine stop_append rfl ?_)); (fail_if_success (with_reducible refine stop_copy rfl ?_)); first | go_values | go_skip | go_guarded | go_step | go_upon | (simp only []; go_at_K))
    go_ret
    exact ⟨rfl, ((Upd.refl _ _).alloc _)⟩
  · have s0 : 0 ≤ s := by omega
    go_enter Tryd.func57, Tryd.ntmps57
    repeat' ((fail_if_success (with_reducible refine stop_append rfl ?_)); (fail_if_success (with_reducible refine stop_copy rfl ?_)); first | go_values | go_skip | go_guarded | go_step | go_upon | (simp only []; go_at_K))
    ((with_reducible refine (netSite f _).mono ?_); rintro e w' ⟨rfl, rfl⟩)
    repeat' ((fail_if_success (with_reducible refine stop_append rfl ?_)); (fail_if_success (with_reducible refine stop_copy rfl ?_)); first | go_values | go_skip | go_guarded | go_step | go_upon | (simp only []; go_at_K))
    ((with_reducible refine (netSite t _).mono ?_); rintro e w' ⟨rfl, rfl⟩)
    repeat' ((fail_if_success (with_reducible refine stop_append rfl ?_)); (fail_if_success (with_reducible refine stop_copy rfl ?_)); first | go_values | go_skip | go_guarded | go_step | go_upon | (simp only []; go_at_K))
    go_ret
    exact ⟨rfl, ((Upd.refl _ _).alloc _)⟩

set_option maxRecDepth 100000 in
set_option maxHeartbeats 4000000 in
theorem netMay_v (k f t s br bs hr hs : Int) (so : Bool) (A : Option Addr) (n c : Nat) (w : World) (k1 : 1 ≤ k) (k8 : k ≤ 8) (hf : siteB f = true) (ht : siteB t = true) (s0 : 0 ≤ s) (s1 : s < 4096) (hn : 2048 < (n : Int)) :
    Calls Tryd.prog 57 #[.agg #[.int .i64 k, .int .i64 f, .int .i64 t, .int .i64 s, .int .i64 br, .int .i64 bs, .int .i64 hr, .int .i64 hs, .bool so, .slice A n c]] w fun e w' => e = .returned (.bool false) ∧ Upd [] [] w w' := by
  go_enter Tryd.func57, Tryd.ntmps57
  repeat' ((fail_if_success (with_reducible refine stop_append rfl ?_)); (fail_if_success (with_reducible refine stop_copy rfl ?_)); first | go_values | go_skip | go_guarded | go_step | go_upon | (simp only []; go_at_K))
  ((with_reducible refine (netSite f _).mono ?_); rintro e w' ⟨rfl, rfl⟩)
  repeat' ((fail_if_success (with_reducible refine stop_append rfl ?_)); (fail_if_success (with_reducible refine stop_copy rfl ?_)); first | go_values | go_skip | go_guarded | go_step | go_upon | (simp only []; go_at_K))
  ((with_reducible refine (netSite t _).mono ?_); rintro e w' ⟨rfl, rfl⟩)
  repeat' ((fail_if_success (with_reducible refine stop_append rfl ?_)); (fail_if_success (with_reducible refine stop_copy rfl ?_)); first | go_values | go_skip | go_guarded | go_step | go_upon | (simp only []; go_at_K))
  go_ret
  exact ⟨rfl, ((Upd.refl _ _).alloc _)⟩

set_option maxRecDepth 100000 in
set_option maxHeartbeats 4000000 in
theorem netMay_b (k f t s br bs hr hs : Int) (so : Bool) (A : Option Addr) (n c : Nat) (w : World) (k1 : 1 ≤ k) (k8 : k ≤ 8) (hf : siteB f = true) (ht : siteB t = true) (s0 : 0 ≤ s) (s1 : s < 4096) (hn : (n : Int) ≤ 2048) (hb : balB br bs = false) :
    Calls Tryd.prog 57 #[.agg #[.int .i64 k, .int .i64 f, .int .i64 t, .int .i64 s, .int .i64 br, .int .i64 bs, .int .i64 hr, .int .i64 hs, .bool so, .slice A n c]] w fun e w' => e = .returned (.bool false) ∧ Upd [] [] w w' := by
  go_enter Tryd.func57, Tryd.ntmps57
  repeat' ((fail_if_success (with_reducible refine stop_append rfl ?_)); (fail_if_success (with_reducible refine stop_copy rfl ?_)); first | go_values | go_skip | go_guarded | go_step | go_upon | (simp only []; go_at_K))
  ((with_reducible refine (netSite f _).mono ?_); rintro e w' ⟨rfl, rfl⟩)
  repeat' ((fail_if_success (with_reducible refine stop_append rfl ?_)); (fail_if_success (with_reducible refine stop_copy rfl ?_)); first | go_values | go_skip | go_guarded | go_step | go_upon | (simp only []; go_at_K))
  ((with_reducible refine (netSite t _).mono ?_); rintro e w' ⟨rfl, rfl⟩)
  repeat' ((fail_if_success (with_reducible refine stop_append rfl ?_)); (fail_if_success (with_reducible refine stop_copy rfl ?_)); first | go_values | go_skip | go_guarded | go_step | go_upon | (simp only []; go_at_K))
  ((with_reducible refine (ballotMay br bs _).mono ?_); rintro e w1 ⟨rfl, hu1⟩)
  have hX1 := (Blk.new w 56 #[.int .i64 k, .int .i64 f, .int .i64 t, .int .i64 s, .int .i64 br, .int .i64 bs, .int .i64 hr, .int .i64 hs, .bool so, .slice A n c]).upd hu1 (by simp)
  obtain ⟨⟨-, -, -, -, -, -, q61, q71, q81, q91⟩, -⟩ := hX1.c10
  repeat' ((fail_if_success (with_reducible refine stop_append rfl ?_)); (fail_if_success (with_reducible refine stop_copy rfl ?_)); first | go_values | go_skip | go_guarded | go_step | go_upon | (simp only []; go_at_K))
  go_ret
  exact ⟨rfl, (((Upd.refl _ _).alloc _).trans hu1)⟩

set_option maxRecDepth 100000 in
set_option maxHeartbeats 4000000 in
theorem netMay_h (k f t s br bs hr hs : Int) (so : Bool) (A : Option Addr) (n c : Nat) (w : World) (k1 : 1 ≤ k) (k8 : k ≤ 8) (hf : siteB f = true) (ht : siteB t = true) (s0 : 0 ≤ s) (s1 : s < 4096) (hn : (n : Int) ≤ 2048) (hb : balB br bs = true) (hh : balB hr hs = false) :
    Calls Tryd.prog 57 #[.agg #[.int .i64 k, .int .i64 f, .int .i64 t, .int .i64 s, .int .i64 br, .int .i64 bs, .int .i64 hr, .int .i64 hs, .bool so, .slice A n c]] w fun e w' => e = .returned (.bool false) ∧ Upd [] [] w w' := by
  go_enter Tryd.func57, Tryd.ntmps57
  repeat' ((fail_if_success (with_reducible refine stop_append rfl ?_)); (fail_if_success (with_reducible refine stop_copy rfl ?_)); first | go_values | go_skip | go_guarded | go_step | go_upon | (simp only []; go_at_K))
  ((with_reducible refine (netSite f _).mono ?_); rintro e w' ⟨rfl, rfl⟩)
  repeat' ((fail_if_success (with_reducible refine stop_append rfl ?_)); (fail_if_success (with_reducible refine stop_copy rfl ?_)); first | go_values | go_skip | go_guarded | go_step | go_upon | (simp only []; go_at_K))
  ((with_reducible refine (netSite t _).mono ?_); rintro e w' ⟨rfl, rfl⟩)
  repeat' ((fail_if_success (with_reducible refine stop_append rfl ?_)); (fail_if_success (with_reducible refine stop_copy rfl ?_)); first | go_values | go_skip | go_guarded | go_step | go_upon | (simp only []; go_at_K))
  ((with_reducible refine (ballotMay br bs _).mono ?_); rintro e w1 ⟨rfl, hu1⟩)
  have hX1 := (Blk.new w 56 #[.int .i64 k, .int .i64 f, .int .i64 t, .int .i64 s, .int .i64 br, .int .i64 bs, .int .i64 hr, .int .i64 hs, .bool so, .slice A n c]).upd hu1 (by simp)
  obtain ⟨⟨-, -, -, -, -, -, q61, q71, q81, q91⟩, -⟩ := hX1.c10
  repeat' ((fail_if_success (with_reducible refine stop_append rfl ?_)); (fail_if_success (with_reducible refine stop_copy rfl ?_)); first | go_values | go_skip | go_guarded | go_step | go_upon | (simp only []; go_at_K))
  ((with_reducible refine (ballotMay hr hs _).mono ?_); rintro e w2 ⟨rfl, hu2⟩)
  have hX2 := hX1.upd hu2 (by simp)
  obtain ⟨⟨-, -, -, -, -, -, q62, q72, q82, q92⟩, -⟩ := hX2.c10
  repeat' ((fail_if_success (with_reducible refine stop_append rfl ?_)); (fail_if_success (with_reducible refine stop_copy rfl ?_)); first | go_values | go_skip | go_guarded | go_step | go_upon | (simp only []; go_at_K))
  go_ret
  exact ⟨rfl, ((((Upd.refl _ _).alloc _).trans hu1).trans hu2)⟩

set_option maxRecDepth 100000 in
set_option maxHeartbeats 4000000 in
theorem netMay_o (k f t s br bs hr hs : Int) (so : Bool) (A : Option Addr) (n c : Nat) (w : World) (k1 : 1 ≤ k) (k8 : k ≤ 8) (hf : siteB f = true) (ht : siteB t = true) (s0 : 0 ≤ s) (s1 : s < 4096) (hn : (n : Int) ≤ 2048) (hb : balB br bs = true) (hh : balB hr hs = true) (ho : so = false) (h : ¬ (hr = 0 ∧ hs = 0)) :
    Calls Tryd.prog 57 #[.agg #[.int .i64 k, .int .i64 f, .int .i64 t, .int .i64 s, .int .i64 br, .int .i64 bs, .int .i64 hr, .int .i64 hs, .bool so, .slice A n c]] w fun e w' => e = .returned (.bool false) ∧ Upd [] [] w w' := by
  subst ho
  have eq := fun w => (eqBal hr hs 0 0 w).trans (by rw [show ((hr == 0) && (hs == 0)) = false by rw [Bool.and_eq_false_iff]; simp; omega])
  clear h
  go_enter Tryd.func57, Tryd.ntmps57
  repeat' ((fail_if_success (with_reducible refine stop_append rfl ?_)); (fail_if_success (with_reducible refine stop_copy rfl ?_)); first | go_values | go_skip | go_guarded | go_step | go_upon | (simp only []; go_at_K))
  ((with_reducible refine (netSite f _).mono ?_); rintro e w' ⟨rfl, rfl⟩)
  repeat' ((fail_if_success (with_reducible refine stop_append rfl ?_)); (fail_if_success (with_reducible refine stop_copy rfl ?_)); first | go_values | go_skip | go_guarded | go_step | go_upon | (simp only []; go_at_K))
  ((with_reducible refine (netSite t _).mono ?_); rintro e w' ⟨rfl, rfl⟩)
  repeat' ((fail_if_success (with_reducible refine stop_append rfl ?_)); (fail_if_success (with_reducible refine stop_copy rfl ?_)); first | go_values | go_skip | go_guarded | go_step | go_upon | (simp only []; go_at_K))
  ((with_reducible refine (ballotMay br bs _).mono ?_); rintro e w1 ⟨rfl, hu1⟩)
  have hX1 := (Blk.new w 56 #[.int .i64 k, .int .i64 f, .int .i64 t, .int .i64 s, .int .i64 br, .int .i64 bs, .int .i64 hr, .int .i64 hs, .bool false, .slice A n c]).upd hu1 (by simp)
  obtain ⟨⟨-, -, -, -, -, -, q61, q71, q81, q91⟩, -⟩ := hX1.c10
  repeat' ((fail_if_success (with_reducible refine stop_append rfl ?_)); (fail_if_success (with_reducible refine stop_copy rfl ?_)); first | go_values | go_skip | go_guarded | go_step | go_upon | (simp only []; go_at_K))
  ((with_reducible refine (ballotMay hr hs _).mono ?_); rintro e w2 ⟨rfl, hu2⟩)
  have hX2 := hX1.upd hu2 (by simp)
  obtain ⟨⟨-, -, -, -, -, -, q62, q72, q82, q92⟩, -⟩ := hX2.c10
  repeat' ((fail_if_success (with_reducible refine stop_append rfl ?_)); (fail_if_success (with_reducible refine stop_copy rfl ?_)); first | go_values | go_skip | go_guarded | go_step | go_upon | (simp only []; go_at_K))
  go_ret
  exact ⟨rfl, ((((Upd.refl _ _).alloc _).trans hu1).trans hu2)⟩

set_option maxRecDepth 100000 in
set_option maxHeartbeats 4000000 in
theorem netMay_n (k f t s br bs hr hs : Int) (so : Bool) (A : Option Addr) (n c : Nat) (w : World) (k1 : 1 ≤ k) (k8 : k ≤ 8) (hf : siteB f = true) (ht : siteB t = true) (s0 : 0 ≤ s) (s1 : s < 4096) (hn : (n : Int) ≤ 2048) (hb : balB br bs = true) (hh : balB hr hs = true) (ho : so = false) (h : hr = 0 ∧ hs = 0) (h0 : ((n : Int) == 0) = false) :
    Calls Tryd.prog 57 #[.agg #[.int .i64 k, .int .i64 f, .int .i64 t, .int .i64 s, .int .i64 br, .int .i64 bs, .int .i64 hr, .int .i64 hs, .bool so, .slice A n c]] w fun e w' => e = .returned (.bool false) ∧ Upd [] [] w w' := by
  subst ho
  have eq := fun w => (eqBal hr hs 0 0 w).trans (by rw [show ((hr == 0) && (hs == 0)) = true by simp [h.1, h.2]])
  clear h
  go_enter Tryd.func57, Tryd.ntmps57
  repeat' ((fail_if_success (with_reducible refine stop_append rfl ?_)); (fail_if_success (with_reducible refine stop_copy rfl ?_)); first | go_values | go_skip | go_guarded | go_step | go_upon | (simp only []; go_at_K))
  ((with_reducible refine (netSite f _).mono ?_); rintro e w' ⟨rfl, rfl⟩)
  repeat' ((fail_if_success (with_reducible refine stop_append rfl ?_)); (fail_if_success (with_reducible refine stop_copy rfl ?_)); first | go_values | go_skip | go_guarded | go_step | go_upon | (simp only []; go_at_K))
  ((with_reducible refine (netSite t _).mono ?_); rintro e w' ⟨rfl, rfl⟩)
  repeat' ((fail_if_success (with_reducible refine stop_append rfl ?_)); (fail_if_success (with_reducible refine stop_copy rfl ?_)); first | go_values | go_skip | go_guarded | go_step | go_upon | (simp only []; go_at_K))
  ((with_reducible refine (ballotMay br bs _).mono ?_); rintro e w1 ⟨rfl, hu1⟩)
  have hX1 := (Blk.new w 56 #[.int .i64 k, .int .i64 f, .int .i64 t, .int .i64 s, .int .i64 br, .int .i64 bs, .int .i64 hr, .int .i64 hs, .bool false, .slice A n c]).upd hu1 (by simp)
  obtain ⟨⟨-, -, -, -, -, -, q61, q71, q81, q91⟩, -⟩ := hX1.c10
  repeat' ((fail_if_success (with_reducible refine stop_append rfl ?_)); (fail_if_success (with_reducible refine stop_copy rfl ?_)); first | go_values | go_skip | go_guarded | go_step | go_upon | (simp only []; go_at_K))
  ((with_reducible refine (ballotMay hr hs _).mono ?_); rintro e w2 ⟨rfl, hu2⟩)
  have hX2 := hX1.upd hu2 (by simp)
  obtain ⟨⟨-, -, -, -, -, -, q62, q72, q82, q92⟩, -⟩ := hX2.c10
  repeat' ((fail_if_success (with_reducible refine stop_append rfl ?_)); (fail_if_success (with_reducible refine stop_copy rfl ?_)); first | go_values | go_skip | go_guarded | go_step | go_upon | (simp only []; go_at_K))
  go_ret
  exact ⟨rfl, ((((Upd.refl _ _).alloc _).trans hu1).trans hu2)⟩

set_option maxRecDepth 100000 in
set_option maxHeartbeats 4000000 in
theorem netMay_yes1 (k f t s br bs hr hs : Int) (so : Bool) (A : Option Addr) (n c : Nat) (w : World) (k1 : 1 ≤ k) (k8 : k ≤ 8) (hf : siteB f = true) (ht : siteB t = true) (s0 : 0 ≤ s) (s1 : s < 4096) (hn : (n : Int) ≤ 2048) (hb : balB br bs = true) (hh : balB hr hs = true) (ho : so = true) :
    Calls Tryd.prog 57 #[.agg #[.int .i64 k, .int .i64 f, .int .i64 t, .int .i64 s, .int .i64 br, .int .i64 bs, .int .i64 hr, .int .i64 hs, .bool so, .slice A n c]] w fun e w' => e = .returned (.bool true) ∧ Upd [] [] w w' := by
  subst ho
  go_enter Tryd.func57, Tryd.ntmps57
  repeat' ((fail_if_success (with_reducible refine stop_append rfl ?_)); (fail_if_success (with_reducible refine stop_copy rfl ?_)); first | go_values | go_skip | go_guarded | go_step | go_upon | (simp only []; go_at_K))
  ((with_reducible refine (netSite f _).mono ?_); rintro e w' ⟨rfl, rfl⟩)
  repeat' ((fail_if_success (with_reducible refine stop_append rfl ?_)); (fail_if_success (with_reducible refine stop_copy rfl ?_)); first | go_values | go_skip | go_guarded | go_step | go_upon | (simp only []; go_at_K))
  ((with_reducible refine (netSite t _).mono ?_); rintro e w' ⟨rfl, rfl⟩)
  repeat' ((fail_if_success (with_reducible refine stop_append rfl ?_)); (fail_if_success (with_reducible refine stop_copy rfl ?_)); first | go_values | go_skip | go_guarded | go_step | go_upon | (simp only []; go_at_K))
  ((with_reducible refine (ballotMay br bs _).mono ?_); rintro e w1 ⟨rfl, hu1⟩)
  have hX1 := (Blk.new w 56 #[.int .i64 k, .int .i64 f, .int .i64 t, .int .i64 s, .int .i64 br, .int .i64 bs, .int .i64 hr, .int .i64 hs, .bool true, .slice A n c]).upd hu1 (by simp)
  obtain ⟨⟨-, -, -, -, -, -, q61, q71, q81, q91⟩, -⟩ := hX1.c10
  repeat' ((fail_if_success (with_reducible refine stop_append rfl ?_)); (fail_if_success (with_reducible refine stop_copy rfl ?_)); first | go_values | go_skip | go_guarded | go_step | go_upon | (simp only []; go_at_K))
  ((with_reducible refine (ballotMay hr hs _).mono ?_); rintro e w2 ⟨rfl, hu2⟩)
  have hX2 := hX1.upd hu2 (by simp)
  obtain ⟨⟨-, -, -, -, -, -, q62, q72, q82, q92⟩, -⟩ := hX2.c10
  repeat' ((fail_if_success (with_reducible refine stop_append rfl ?_)); (fail_if_success (with_reducible refine stop_copy rfl ?_)); first | go_values | go_skip | go_guarded | go_step | go_upon | (simp only []; go_at_K))
  go_ret
  exact ⟨rfl, ((((Upd.refl _ _).alloc _).trans hu1).trans hu2)⟩

set_option maxRecDepth 100000 in
set_option maxHeartbeats 4000000 in
theorem netMay_yes2 (k f t s br bs hr hs : Int) (so : Bool) (A : Option Addr) (n c : Nat) (w : World) (k1 : 1 ≤ k) (k8 : k ≤ 8) (hf : siteB f = true) (ht : siteB t = true) (s0 : 0 ≤ s) (s1 : s < 4096) (hn : (n : Int) ≤ 2048) (hb : balB br bs = true) (hh : balB hr hs = true) (ho : so = false) (h : hr = 0 ∧ hs = 0) (h0 : ((n : Int) == 0) = true) :
    Calls Tryd.prog 57 #[.agg #[.int .i64 k, .int .i64 f, .int .i64 t, .int .i64 s, .int .i64 br, .int .i64 bs, .int .i64 hr, .int .i64 hs, .bool so, .slice A n c]] w fun e w' => e = .returned (.bool true) ∧ Upd [] [] w w' := by
  subst ho
  have eq := fun w => (eqBal hr hs 0 0 w).trans (by rw [show ((hr == 0) && (hs == 0)) = true by simp [h.1, h.2]])
  clear h
  go_enter Tryd.func57, Tryd.ntmps57
  repeat' ((fail_if_success (with_reducible refine stop_append rfl ?_)); (fail_if_success (with_reducible refine stop_copy rfl ?_)); first | go_values | go_skip | go_guarded | go_step | go_upon | (simp only []; go_at_K))
  ((with_reducible refine (netSite f _).mono ?_); rintro e w' ⟨rfl, rfl⟩)
  repeat' ((fail_if_success (with_reducible refine stop_append rfl ?_)); (fail_if_success (with_reducible refine stop_copy rfl ?_)); first | go_values | go_skip | go_guarded | go_step | go_upon | (simp only []; go_at_K))
  ((with_reducible refine (netSite t _).mono ?_); rintro e w' ⟨rfl, rfl⟩)
  repeat' ((fail_if_success (with_reducible refine stop_append rfl ?_)); (fail_if_success (with_reducible refine stop_copy rfl ?_)); first | go_values | go_skip | go_guarded | go_step | go_upon | (simp only []; go_at_K))
  ((with_reducible refine (ballotMay br bs _).mono ?_); rintro e w1 ⟨rfl, hu1⟩)
  have hX1 := (Blk.new w 56 #[.int .i64 k, .int .i64 f, .int .i64 t, .int .i64 s, .int .i64 br, .int .i64 bs, .int .i64 hr, .int .i64 hs, .bool false, .slice A n c]).upd hu1 (by simp)
  obtain ⟨⟨-, -, -, -, -, -, q61, q71, q81, q91⟩, -⟩ := hX1.c10
  repeat' ((fail_if_success (with_reducible refine stop_append rfl ?_)); (fail_if_success (with_reducible refine stop_copy rfl ?_)); first | go_values | go_skip | go_guarded | go_step | go_upon | (simp only []; go_at_K))
  ((with_reducible refine (ballotMay hr hs _).mono ?_); rintro e w2 ⟨rfl, hu2⟩)
  have hX2 := hX1.upd hu2 (by simp)
  obtain ⟨⟨-, -, -, -, -, -, q62, q72, q82, q92⟩, -⟩ := hX2.c10
  repeat' ((fail_if_success (with_reducible refine stop_append rfl ?_)); (fail_if_success (with_reducible refine stop_copy rfl ?_)); first | go_values | go_skip | go_guarded | go_step | go_upon | (simp only []; go_at_K))
  go_ret
  exact ⟨rfl, ((((Upd.refl _ _).alloc _).trans hu1).trans hu2)⟩

theorem netMay_yes (x : Mv) (w : World) (hr : RdB w x.A x.n x.b) (hm : x.ms.May) :
    Calls Tryd.prog 57 #[x.val] w fun e w' => e = .returned (.bool true) ∧ Upd [] [] w w' := by
  have hn := hr.len
  obtain ⟨h1, h2, h3, h4, h5, h6, h7, h8, h9, h10⟩ := hm
  simp only [Mv.ms] at h1 h2 h3 h4 h5 h6 h7 h8 h9 h10
  rw [Mv.val_eq]
  cases ho : x.so
  · have h11 : (x.hr = 0 ∧ x.hs = 0) ∧ x.b.length = 0 := by
      rcases h10 with h | h
      · rw [ho] at h; cases h
      · exact h
    exact netMay_yes2 _ _ _ _ _ _ _ _ _ _ _ _ w h1.1 h1.2 (siteB_yes h2) (siteB_yes h3) h4.1 (by omega) (by omega) (balB_yes h5 h6) (balB_yes h7 h8) rfl h11.1 (by simp; omega)
  · exact netMay_yes1 _ _ _ _ _ _ _ _ _ _ _ _ w h1.1 h1.2 (siteB_yes h2) (siteB_yes h3) h4.1 (by omega) (by omega) (balB_yes h5 h6) (balB_yes h7 h8) rfl
theorem netMay_no (x : Mv) (w : World) (hr : RdB w x.A x.n x.b) (hm : ¬ x.ms.May) :
    Calls Tryd.prog 57 #[x.val] w fun e w' => e = .returned (.bool false) ∧ Upd [] [] w w' := by
  have hn := hr.len
  have hm := netMay_cases hm
  simp only [Mv.ms] at hm
  rw [Mv.val_eq]
  rcases hm with h | ⟨⟨k1, k8⟩, h | ⟨hf, h | ⟨ht, h | ⟨⟨s0, s1⟩, h | ⟨hv, h | ⟨hb, h | ⟨hh, ho, h | ⟨h, h0⟩⟩⟩⟩⟩⟩⟩⟩
  · exact netMay_k _ _ _ _ _ _ _ _ _ _ _ _ w h
  · exact netMay_f _ _ _ _ _ _ _ _ _ _ _ _ w k1 k8 (siteB_no h)
  · exact netMay_t _ _ _ _ _ _ _ _ _ _ _ _ w k1 k8 (siteB_yes hf) (siteB_no h)
  · exact netMay_s _ _ _ _ _ _ _ _ _ _ _ _ w k1 k8 (siteB_yes hf) (siteB_yes ht) h
  · exact netMay_v _ _ _ _ _ _ _ _ _ _ _ _ w k1 k8 (siteB_yes hf) (siteB_yes ht) s0 s1 (by omega)
  · exact netMay_b _ _ _ _ _ _ _ _ _ _ _ _ w k1 k8 (siteB_yes hf) (siteB_yes ht) s0 s1 (by omega) (balB_no h)
  · exact netMay_h _ _ _ _ _ _ _ _ _ _ _ _ w k1 k8 (siteB_yes hf) (siteB_yes ht) s0 s1 (by omega) (balB_yes hb.1 hb.2) (balB_no h)
  · exact netMay_o _ _ _ _ _ _ _ _ _ _ _ _ w k1 k8 (siteB_yes hf) (siteB_yes ht) s0 s1 (by omega) (balB_yes hb.1 hb.2) (balB_yes hh.1 hh.2) ho h
  · exact netMay_n _ _ _ _ _ _ _ _ _ _ _ _ w k1 k8 (siteB_yes hf) (siteB_yes ht) s0 s1 (by omega) (balB_yes hb.1 hb.2) (balB_yes hh.1 hh.2) ho h (by simp; omega)
end Go.Proofs.YtdmkhmejpgjioaaDoor

