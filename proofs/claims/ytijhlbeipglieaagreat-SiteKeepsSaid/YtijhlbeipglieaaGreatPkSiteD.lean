/- Layer 23: agiolaw23's made, a site of some. -/
import Derived.Test.YtijhlbeipglieaaGreatPkSiteP
namespace Go.Proofs.YtijhlbeipglieaaGreat
open Go.RowKit Agio Go.Maps

def cntN (n : Nat) : Nat := 3 + n % 5
set_option maxRecDepth 100000 in
set_option maxHeartbeats 1000000 in
theorem siteMade (w : World) (a b : Nat) (ha : a < 256) (hb : b < 256) :
    Calls Tryz.prog 15 #[.int .u8 (a : Int), .int .u8 (b : Int)] w fun e w' => ∃ M : SiteV, e = .returned M.ptr ∧ SiteS w' M ∧ M.pl = Site.new (a % cntN b) (cntN b) 3 ∧ Upd [] M.fp w w' := by
  obtain ⟨k, hk⟩ : ∃ k, cntN b = k := ⟨_, rfl⟩
  have hk3 : 3 ≤ k ∧ k ≤ 7 := by unfold cntN at hk; omega
  obtain ⟨r, hr⟩ : ∃ r, a % k = r := ⟨_, rfl⟩
  have hrk : r < k := by rw [← hr]; exact Nat.mod_lt _ (by omega)
  obtain ⟨q, hq⟩ : ∃ q, b % 5 = q := ⟨_, rfl⟩
  have hkq : k = 3 + q := by rw [← hk, ← hq]; rfl
  have e1 : (b : Int).tmod 5 = (q : Int) := by rw [← hq]; rfl
  have e2 : IntKind.u8.wrap (q : Int) = (q : Int) := by rw [IntKind.wrap_u8]; omega
  have e3 : IntKind.i64.wrap (q : Int) = (q : Int) := by rw [IntKind.wrap_i64]; omega
  have e4 : IntKind.i64.wrap (3 + (q : Int)) = (k : Int) := by rw [IntKind.wrap_i64]; omega
  have e5 : IntKind.i64.wrap (a : Int) = (a : Int) := by rw [IntKind.wrap_i64]; omega
  have e6 : (a : Int).tmod (k : Int) = (r : Int) := by rw [← hr]; rfl
  have e7 : IntKind.i64.wrap (r : Int) = (r : Int) := by rw [IntKind.wrap_i64]; omega
  have hk0 : ((k : Int) == 0) = false := beq_false_of_ne (by omega)
  have hk1 : ((k : Int) == -1) = false := beq_false_of_ne (by omega)
  have C := siteNew w r k 3 (by simp only [newOk, Bool.and_eq_true, decide_eq_true_eq]; omega)
  rw [hk, hr]
  rw [show ((3 : Nat) : Int) = 3 from rfl] at C
  have HK := Lib.hid hkq
  clear hk hr hq hkq
  go_enter Tryz.func15, Tryz.ntmps15
  repeat' ((fail_if_success (with_reducible refine stop_append rfl ?_)); (fail_if_success (with_reducible refine stop_copy rfl ?_)); first | go_values | go_skip | go_guarded | go_step | go_upon | (simp only []; go_at_K))
  ((with_reducible refine C.mono ?_); rintro e w1 ⟨M, rfl, h1, hp, u⟩)
  simp only [SiteV.ptr]
  repeat' ((fail_if_success (with_reducible refine stop_append rfl ?_)); (fail_if_success (with_reducible refine stop_copy rfl ?_)); first | go_values | go_skip | go_guarded | go_step | go_upon | (simp only []; go_at_K))
  go_ret
  exact ⟨M, rfl, h1, hp, u⟩
end Go.Proofs.YtijhlbeipglieaaGreat
