/- Frames: (agio/frame).Take. -/
import Derived.Test.YtdmkhmejpgjioaaDoorFrame4
import Derived.Deep.RegionWith
set_option linter.all false
namespace Go.Proofs.YtdmkhmejpgjioaaDoor
open Go.RowKit Agio

/-- What Take tells. -/
def FTook (b : List UInt8) (w' : World) (e : Ending) : Prop :=
  (∃ bad : Nat, fst b = (0, bad) ∧ bad ≠ 0 ∧ e = .returned (.tuple #[.slice none 0 0, .slice none 0 0, .int .i64 (bad : Int)])) ∨
  ∃ (m : Nat) (A1 : Option Addr) (n1 c1 : Nat) (A2 : Option Addr) (n2 c2 : Nat), fst b = (m, 0) ∧ OwnB 5 w' A1 n1 c1 ((b.drop 8).take m) ∧ OwnB 5 w' A2 n2 c2 (b.drop (8 + m)) ∧
    e = .returned (.tuple #[.slice A1 n1 c1, .slice A2 n2 c2, .int .i64 0])

set_option maxRecDepth 100000 in
set_option maxHeartbeats 2000000 in
theorem frameTake (w : World) (A : Option Addr) (n c : Nat) (b : List UInt8) (hr : RdB w A n b) (hc : n ≤ c) (hcm : c ≤ maxLen) (hb : b.length ≤ 140737488355328) :
    Calls Tryd.prog 64 #[.slice A n c] w fun e w' => FTook b w' e ∧ Upd [] [] w w' := by
  obtain rfl := hr.len
  have C := frameFirst w A _ c b hr hc hcm hb
  obtain ⟨m, bad, hf⟩ : ∃ m bad, fst b = (m, bad) := ⟨_, _, rfl⟩
  rw [hf] at C
  by_cases h0 : bad = 0
  · subst h0
    obtain ⟨h1, h2, -⟩ := fst_ok hf
    have HF := Lib.hid hf; clear hf
    have hcM : (c : Int) ≤ 9223372036854775807 := by unfold maxLen at hcm; omega
    have hp := hr.part hc 8 m (by omega)
    have hq := hr.rest hc (8 + m) (by omega)
    obtain ⟨A8, hA8⟩ : ∃ A8, (if c = 8 then A else A.map (fun x => ⟨x.block, x.off + 8, none⟩)) = A8 := ⟨_, rfl⟩
    have e8 : (fun x : Addr => x.add 8) = (fun x => ⟨x.block, x.off + 8, none⟩) := by funext x; simp [Addr.add]
    rw [e8, hA8] at hp
    obtain ⟨m8, hm8⟩ : ∃ m8, 8 + m = m8 := ⟨_, rfl⟩
    have hcast : (8 : Int) + (m : Int) = (m8 : Int) := by omega
    rw [hm8] at hq
    obtain ⟨Ar, hAr⟩ : ∃ Ar, (if c = m8 then A else A.map (fun x => x.add m8)) = Ar := ⟨_, rfl⟩
    rw [hAr] at hq
    have hw1 : IntKind.i64.wrap (8 + (m : Int)) = (m8 : Int) := by rw [IntKind.wrap_i64]; omega
    have hw2 : (8 : Int) ≤ (m8 : Int) := by omega
    have hw3 : (m8 : Int) ≤ (c : Int) := by omega
    have hw4 : (m8 : Int) ≤ (b.length : Int) := by omega
    rw [show m = m8 - 8 by omega] at hp
    have hpl : ((b.drop 8).take (m8 - 8)) = (b.drop 8).take m := by congr 1; omega
    rw [hpl] at hp
    clear hpl
    have hw6 : (8 : Int) ≤ (c : Int) := by omega
    have hw7 : (b.length : Int) ≤ (c : Int) := by omega
    have hlp : ((b.drop 8).take m).length ≤ 140737488355328 := by simp; omega
    have hlq : (b.drop m8).length ≤ 140737488355328 := by simp; omega
    have HFT : Hid (∀ w' A1 n1 c1 A2 n2 c2, OwnB 5 w' A1 n1 c1 ((b.drop 8).take m) → OwnB 5 w' A2 n2 c2 (b.drop m8) → FTook b w' (.returned (.tuple #[.slice A1 n1 c1, .slice A2 n2 c2, .int .i64 0]))) := fun w' A1 n1 c1 A2 n2 c2 h1 h2 => .inr ⟨m, A1, n1, c1, A2, n2, c2, HF.out, h1, by rw [hm8]; exact h2, rfl⟩
    generalize (b.drop 8).take m = bp at *
    generalize b.drop m8 = bq at *
    clear hm8 e8 HF h2 hcast
    go_enter Tryd.func64, Tryd.ntmps64
    repeat' ((fail_if_success (with_reducible refine stop_append rfl ?_)); (fail_if_success (with_reducible refine stop_copy rfl ?_)); first | go_values | go_skip | go_guarded | go_step | go_upon | (simp only []; go_at_K))
    ((with_reducible refine C.mono ?_); rintro e w1 ⟨rfl, hu1⟩)
    have hp1 := hp.upd hu1 (by simp)
    have hq1 := hq.upd hu1 (by simp)
    have hpd : RdB w1.drew A8 (m8 - 8) bp := Rd.drew hp1
    have hqd : RdB w1.drew Ar (b.length - m8) bq := Rd.drew hq1
    clear C hp hq hp1 hq1
    repeat' ((fail_if_success (with_reducible refine stop_append rfl ?_)); (fail_if_success (with_reducible refine stop_copy rfl ?_)); first | go_values | go_skip | go_guarded | go_step | go_upon | (simp only []; go_at_K))
    go_region_with (first
      | (go_at_call 72; (with_reducible refine (bytesClone _ A8 (m8 - 8) _ bp (by assumption) hlp).mono ?_); rintro e w5 ⟨A5, k5, c5, rfl, ho5, hu5⟩; try have hq2 := RdB.upd hqd hu5 (by simp))
      | (go_at_call 72; (with_reducible refine (bytesClone _ Ar _ _ bq (by assumption) hlq).mono ?_); rintro e w6 ⟨A6, k6, c6, rfl, ho6, hu6⟩; try have hp2 := RdB.upd hpd hu6 (by simp)))
    all_goals (repeat' ((fail_if_success (with_reducible refine stop_append rfl ?_)); (fail_if_success (with_reducible refine stop_copy rfl ?_)); first | go_values | go_skip | go_guarded | go_step | go_upon | (simp only []; go_at_K)))
    go_ret3
    exact ⟨HFT.out _ _ _ _ _ _ _ (ho5.upd hu6 (by simp)) ho6, (((hu1.drew.trans hu5).gives (b' := []) (by simp)).trans hu6).gives (by simp)⟩
  · obtain ⟨rfl, hbad⟩ : m = 0 ∧ _ := by have := fst_bad (b := b) (by rw [hf]; exact h0); rw [hf] at this; exact this
    have HF := Lib.hid hf; clear hf hbad
    have hz : ((bad : Int) != 0) = true := by simp; omega
    go_enter Tryd.func64, Tryd.ntmps64
    repeat' ((fail_if_success (with_reducible refine stop_append rfl ?_)); (fail_if_success (with_reducible refine stop_copy rfl ?_)); first | go_values | go_skip | go_guarded | go_step | go_upon | (simp only []; go_at_K))
    ((with_reducible refine C.mono ?_); rintro e w1 ⟨rfl, hu1⟩)
    repeat' ((fail_if_success (with_reducible refine stop_append rfl ?_)); (fail_if_success (with_reducible refine stop_copy rfl ?_)); first | go_values | go_skip | go_guarded | go_step | go_upon | (simp only []; go_at_K))
    go_ret3
    exact ⟨.inl ⟨bad, HF.out, h0, rfl⟩, hu1⟩
end Go.Proofs.YtdmkhmejpgjioaaDoor
