/- agiolaw20: same, nums. -/
import Derived.Test.YtdmmpcdilkcfjaaSpl1
import Derived.Test.YtdmmpcdilkcfjaaOrdEq2
namespace Go.Proofs.Ytdmmpcdilkcfjaa
open Go.RowKit Agio

set_option maxRecDepth 100000 in
set_option maxHeartbeats 2000000 in
theorem law20Nums (w : World) (A B : Option Addr) (n c d : Nat) (l : List Int) (ha : Rd w 1 A n (l.map (Value.int .i64))) (hb : Rd w 1 B n (l.map (Value.int .i64))) (hl : l.length ≤ 1000) :
    Calls Try.prog 24 #[.slice A n c, .slice B n d] w fun e w' => e = .returned (.bool true) ∧ Upd [] [] w w' := by
  have hn : n = l.length := by have := ha.1; simp at this; omega
  subst hn
  have hnn : ((l.length : Int) != (l.length : Int)) = false := bne_self_eq_false _
  go_enter Try.func24, Try.ntmps24
  repeat' ((fail_if_success (with_reducible refine stop_append rfl ?_)); (fail_if_success (with_reducible refine stop_copy rfl ?_)); first | go_values | go_skip | go_guarded | go_step | go_upon | (simp only []; go_at_K))
  go_loopw [5] (fun v5 wr => ∃ i : Nat, i ≤ l.length ∧ v5 = .int .i64 (i : Int) ∧ Upd [] [] w wr) (fun v5 _ => l.length - (intOf v5).toNat)
  case atStart => exact ⟨0, by omega, rfl, Upd.refl _ _⟩
  case round =>
    obtain ⟨i, hi, rfl, U⟩ := hrel
    by_cases hlt : i < l.length
    · have hil : (i : Int) < (l.length : Int) := by omega
      have hw1 : IntKind.i64.wrap ((i : Int) + 1) = (i : Int) + 1 := by rw [IntKind.wrap_i64]; omega
      obtain ⟨ad, u, hA, hu, hc⟩ := (ha.upd U (by simp)).at_ hlt
      obtain ⟨ad2, u2, hB, hu2, hc2⟩ := (hb.upd U (by simp)).at_ hlt
      subst hA hB
      rw [List.getElem?_map, List.getElem?_eq_getElem hlt, Option.map_some, Option.some.injEq] at hu hu2
      subst hu hu2
      have c1 := fun N => ((Upd.refl [] wr).drewN N).cell hc (by simp)
      have c2 := fun N => ((Upd.refl [] wr).drewN N).cell hc2 (by simp)
      have hne : (l[i] != l[i]) = false := bne_self_eq_false _
      clear ha hb hc hc2
      generalize l[i] = y at *
      repeat' ((fail_if_success (with_reducible refine stop_append rfl ?_)); (fail_if_success (with_reducible refine stop_copy rfl ?_)); first | go_values | go_skip | go_guarded | go_step | go_upon | (simp only []; go_at_K))
      go_quiet (fail)
      repeat' ((fail_if_success (with_reducible refine stop_append rfl ?_)); (fail_if_success (with_reducible refine stop_copy rfl ?_)); first | go_values | go_skip | go_guarded | go_step | go_upon | (simp only []; go_at_K))
      exact ⟨⟨i + 1, by omega, by simp, U.drewN _⟩, by simp [intOf]; omega⟩
    · obtain rfl : i = l.length := by omega
      have hil : ¬ ((l.length : Int) < (l.length : Int)) := by omega
      clear ha hb
      repeat' ((fail_if_success (with_reducible refine stop_append rfl ?_)); (fail_if_success (with_reducible refine stop_copy rfl ?_)); first | go_values | go_skip | go_guarded | go_step | go_upon | (simp only []; go_at_K))
      go_ret
      exact ⟨rfl, U⟩

set_option maxRecDepth 100000 in
set_option maxHeartbeats 2000000 in
theorem law20Same (w : World) (A B : Option Addr) (n c d : Nat) (L : List Ord) (ha : RdS Ord.cells 7 w A n L) (hb : RdS Ord.cells 7 w B n L) (hl : L.length ≤ 1000) :
    Calls Try.prog 23 #[.slice A n c, .slice B n d] w fun e w' => e = .returned (.bool true) ∧ Upd [] [] w w' := by
  have hn := ha.len
  subst hn
  have hnn : ((L.length : Int) != (L.length : Int)) = false := bne_self_eq_false _
  have E := neSelfRefO
  go_enter Try.func23, Try.ntmps23
  repeat' ((fail_if_success (with_reducible refine stop_append rfl ?_)); (fail_if_success (with_reducible refine stop_copy rfl ?_)); first | go_values | go_skip | go_guarded | go_step | go_upon | (simp only []; go_at_K))
  go_loopw [5] (fun v5 wr => ∃ i : Nat, i ≤ L.length ∧ v5 = .int .i64 (i : Int) ∧ Upd [] [] w wr) (fun v5 _ => L.length - (intOf v5).toNat)
  case atStart => exact ⟨0, by omega, rfl, Upd.refl _ _⟩
  case round =>
    obtain ⟨i, hi, rfl, U⟩ := hrel
    by_cases hlt : i < L.length
    · have hil : (i : Int) < (L.length : Int) := by omega
      have hw1 : IntKind.i64.wrap ((i : Int) + 1) = (i : Int) + 1 := by rw [IntKind.wrap_i64]; omega
      obtain ⟨ad, hA, a0, a1, a2, a3, a4, a5, a6⟩ := ord_at (ha.upd U (by simp)) hlt
      obtain ⟨ad2, hB, b0, b1, b2, b3, b4, b5, b6⟩ := ord_at (hb.upd U (by simp)) hlt
      subst hA hB
      have CW : ∀ p : GU wr, Calls Try.prog 17 #[L[i].val] p.w fun e w' => e = .returned L[i].val ∧ ∃ q : GU wr, w' = q.w := fun p => p.call (law20Real p.w L[i])
      have p0 := fun p : GU wr => p.u.cell a0 (by simp)
      have p1 := fun p : GU wr => p.u.cell a1 (by simp)
      have p2 := fun p : GU wr => p.u.cell a2 (by simp)
      have p3 := fun p : GU wr => p.u.cell a3 (by simp)
      have p4 := fun p : GU wr => p.u.cell a4 (by simp)
      have p5 := fun p : GU wr => p.u.cell a5 (by simp)
      have p6 := fun p : GU wr => p.u.cell a6 (by simp)
      have q0 := fun p : GU wr => p.u.cell b0 (by simp)
      have q1 := fun p : GU wr => p.u.cell b1 (by simp)
      have q2 := fun p : GU wr => p.u.cell b2 (by simp)
      have q3 := fun p : GU wr => p.u.cell b3 (by simp)
      have q4 := fun p : GU wr => p.u.cell b4 (by simp)
      have q5 := fun p : GU wr => p.u.cell b5 (by simp)
      have q6 := fun p : GU wr => p.u.cell b6 (by simp)
      clear ha hb a0 a1 a2 a3 a4 a5 a6 b0 b1 b2 b3 b4 b5 b6
      rw [Ord.val] at CW
      generalize L[i] = o at *
      repeat' ((fail_if_success (with_reducible refine stop_append rfl ?_)); (fail_if_success (with_reducible refine stop_copy rfl ?_)); first | go_values | go_skip | go_guarded | go_step | go_upon | (simp only []; go_at_K))
      refine quiet_gu (by kernel_rfl) (by kernel_rfl) ?_
      repeat (go_big_quiet_step (exact CW _))
      refine wpQuiet_nil ?_
      rintro _ ⟨p, rfl⟩
      repeat' ((fail_if_success (with_reducible refine stop_append rfl ?_)); (fail_if_success (with_reducible refine stop_copy rfl ?_)); first | go_values | go_skip | go_guarded | go_step | go_upon | (simp only []; go_at_K))
      exact ⟨⟨i + 1, by omega, by simp, U.trans p.u⟩, by simp [intOf]; omega⟩
    · obtain rfl : i = L.length := by omega
      have hil : ¬ ((L.length : Int) < (L.length : Int)) := by omega
      clear ha hb
      repeat' ((fail_if_success (with_reducible refine stop_append rfl ?_)); (fail_if_success (with_reducible refine stop_copy rfl ?_)); first | go_values | go_skip | go_guarded | go_step | go_upon | (simp only []; go_at_K))
      go_ret
      exact ⟨rfl, U⟩
end Go.Proofs.Ytdmmpcdilkcfjaa
