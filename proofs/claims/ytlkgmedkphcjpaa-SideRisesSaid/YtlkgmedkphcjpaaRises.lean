/- agiolaw20.SideRises. -/
import Derived.Test.YtlkgmedkphcjpaaFill
namespace Go.Proofs.Ytlkgmedkphcjpaa
open Go.RowKit Agio Go.Maps

set_option maxRecDepth 100000 in
set_option maxHeartbeats 4000000 in
theorem sideRises_any (w : World) (sell : Bool) (A : Option Addr) (n c : Nat) (b : List UInt8) (hb : RdB w A n b) :
    Calls Try.prog 4 #[.bool sell, .slice A n c] w fun e w' => e = .returned (.bool true) ∧ Upd [] [] w w' := by
  obtain rfl := hb.len
  have hs12 : (if sell = true then 2 else 1 : Int) = 1 ∨ (if sell = true then 2 else 1 : Int) = 2 := by cases sell <;> simp
  have hm60 : min b.length 60 ≤ 60 := Nat.min_le_right _ _
  go_enter Try.func4, Try.ntmps4
  repeat' ((fail_if_success (with_reducible refine stop_append rfl ?_)); (fail_if_success (with_reducible refine stop_copy rfl ?_)); first | go_values | go_skip | go_guarded | go_step | go_upon | (simp only []; go_at_K))
  ((with_reducible refine (awake20 _).mono ?_); rintro e w1 ⟨rfl, hu1⟩)
  repeat' ((fail_if_success (with_reducible refine stop_append rfl ?_)); (fail_if_success (with_reducible refine stop_copy rfl ?_)); first | go_values | go_skip | go_guarded | go_step | go_upon | (simp only []; go_at_K))
  ((with_reducible refine (law20Pick _ sell).mono ?_); rintro e w2 ⟨rfl, rfl⟩)
  have hb1 := hb.upd hu1 (by simp)
  repeat' ((fail_if_success (with_reducible refine stop_append rfl ?_)); (fail_if_success (with_reducible refine stop_copy rfl ?_)); first | go_values | go_skip | go_guarded | go_step | go_upon | (simp only []; go_at_K))
  ((with_reducible refine (law20Filled _ _ hs12 A _ c b hb1).mono ?_); rintro e w2 ⟨g, bo, br, R, rfl, h2, hu2⟩)
  have U2 : Upd [] [] w w2 := (hu1.trans hu2).gives (by simp)
  generalize hs : (if sell = true then 2 else 1 : Int) = s at *
  repeat' ((fail_if_success (with_reducible refine stop_append rfl ?_)); (fail_if_success (with_reducible refine stop_copy rfl ?_)); first | go_values | go_skip | go_guarded | go_step | go_upon | (simp only []; go_at_K))
  ((with_reducible refine (sideList w2 g bo br s R _ h2).mono ?_); rintro e w3 ⟨A3, c3, rfl, ho, hu3⟩)
  have h3 := h2.upd0 hu3
  have U3 : Upd [] [] w w3 := U2.trans (hu3.gives (by simp))
  have hlen := fillL_len s b (min b.length 60)
  have hah := fillL_ahead s b (min b.length 60)
  have hmi : min (b.length : Int) 60 = ((min b.length 60 : Nat) : Int) := by omega
  obtain ⟨m, hm⟩ : ∃ m, min b.length 60 = m := ⟨_, rfl⟩
  obtain ⟨L, hL⟩ : ∃ L, fillL s b m = L := ⟨_, rfl⟩
  have hm6 : m ≤ 60 := by omega
  rw [hm] at hlen hah ho h3 hmi ⊢
  rw [hL] at hlen hah ho h3 ⊢
  have HS := Lib.hid hs
  clear hm hL hm60 hs12 hb hb1 h2 hu1 hu2 U2 hu3 hs
  rw [hlen] at ho ⊢
  have hrd : RdS Ord.cells 7 w3 A3 m L := ⟨hlen.symm, ho.rd⟩
  have HL := Lib.hid hlen
  clear hlen
  repeat' ((fail_if_success (with_reducible refine stop_append rfl ?_)); (fail_if_success (with_reducible refine stop_copy rfl ?_)); first | go_values | go_skip | go_guarded | go_step | go_upon | (simp only []; go_at_K))
  go_loopw [9] (fun v9 wr => ∃ j : Nat, (j + 1 ≤ m ∨ j = 0) ∧ v9 = .int .i64 ((j : Int) + 1) ∧ Upd [] [] w3 wr)
    (fun v9 _ => m - (intOf v9).toNat)
  case atStart => exact ⟨0, by omega, rfl, Upd.refl _ _⟩
  case round =>
    obtain ⟨j, hj, rfl, U⟩ := hrel
    by_cases hlt : j + 1 < m
    · have hjl : (j : Int) + 1 < (m : Int) := by omega
      have hjl0 : (j : Int) < (m : Int) := by omega
      have hl := HL.out
      have hj1 : j < L.length := by omega
      have hj2 : j + 1 < L.length := by omega
      have hrdr : RdS Ord.cells 7 wr A3 m L := ⟨hrd.len, hrd.rd.upd U (by simp)⟩
      obtain ⟨ad, rfl, p0, p1, p2, p3, p4, p5, p6⟩ := ord_at hrdr hj1
      have hA : Ahead s L[j] L[j + 1] := List.pairwise_iff_getElem.1 hah j (j + 1) hj1 hj2 (by omega)
      obtain ⟨a, ha⟩ : ∃ a, L[j] = a := ⟨_, rfl⟩
      rw [ha] at p0 p1 p2 p3 p4 p5 p6 hA
      obtain ⟨aid, acl, asd, apr, aqt, apg, aof⟩ := a
      simp only at p0 p1 p2 p3 p4 p5 p6
      have hrd2 : RdS Ord.cells 7 (wr.alloc (.cells #[.int .i64 aid, .int .i64 acl, .int .i64 asd, .int .i64 apr, .int .i64 aqt, .bool apg, .int .i64 aof] 54)) (some ad) m L := ⟨hrdr.len, hrdr.rd.alloc _⟩
      obtain ⟨ad', e', q0, q1, q2, q3, q4, q5, q6⟩ := ord_at hrd2 hj2
      injection e' with e'
      subst e'
      have hw0 : IntKind.i64.wrap ((j : Int) + 1 - 1) = (j : Int) := by rw [IntKind.wrap_i64]; omega
      have hw1 : IntKind.i64.wrap ((j : Int) + 1 + 1) = (j : Int) + 1 + 1 := by rw [IntKind.wrap_i64]; omega
      obtain ⟨b2, hb2⟩ : ∃ b2, L[j + 1] = b2 := ⟨_, rfl⟩
      rw [hb2] at q0 q1 q2 q3 q4 q5 q6 hA
      obtain ⟨bid, bcl, bsd, bpr, bqt, bpg, bof⟩ := b2
      simp only at q0 q1 q2 q3 q4 q5 q6
      have U2 : Upd [] [] w3 ((wr.alloc (.cells #[.int .i64 aid, .int .i64 acl, .int .i64 asd, .int .i64 apr, .int .i64 aqt, .bool apg, .int .i64 aof] 54)).alloc (.cells #[.int .i64 bid, .int .i64 bcl, .int .i64 bsd, .int .i64 bpr, .int .i64 bqt, .bool bpg, .int .i64 bof] 54)) := (U.alloc _).alloc _
      clear hrdr hl hrd hrd2 ho hah h3 ha hb2 hj1 hj2
      rcases hA with hA | ⟨hA, hA2⟩
      · cases sell
        · obtain rfl : s = 1 := by rw [← HS.out]; rfl
          have hA' : bpr < apr := better_desc.1 hA
          clear hA
          repeat' ((fail_if_success (with_reducible refine stop_append rfl ?_)); (fail_if_success (with_reducible refine stop_copy rfl ?_)); first | go_values | go_skip | go_guarded | go_step | go_upon | (simp only []; go_at_K))
          exact ⟨⟨j + 1, by omega, by simp, U2⟩, by simp [intOf]; omega⟩
        · obtain rfl : s = 2 := by rw [← HS.out]; rfl
          have hA' : apr < bpr := better_asc.1 hA
          clear hA
          repeat' ((fail_if_success (with_reducible refine stop_append rfl ?_)); (fail_if_success (with_reducible refine stop_copy rfl ?_)); first | go_values | go_skip | go_guarded | go_step | go_upon | (simp only []; go_at_K))
          all_goals exact ⟨⟨j + 1, by omega, by simp, U2⟩, by simp [intOf]; omega⟩
      · simp only at hA hA2
        subst hA
        have hn : ¬ bid ≤ aid := by omega
        cases sell
        all_goals
          repeat' ((fail_if_success (with_reducible refine stop_append rfl ?_)); (fail_if_success (with_reducible refine stop_copy rfl ?_)); first | go_values | go_skip | go_guarded | go_step | go_upon | (simp only []; go_at_K))
          all_goals exact ⟨⟨j + 1, by omega, by simp, U2⟩, by simp [intOf]; omega⟩
    · have hjl : ¬ ((j : Int) + 1 < (m : Int)) := by omega
      have h4 := h3.upd0 U
      have U4 := U3.trans U
      have hrdr : RdS Ord.cells 7 wr A3 m L := ⟨hrd.len, hrd.rd.upd U (by simp)⟩
      have C := sideBest wr g bo br s R L h4
      have hl := HL.out
      clear h3 h4 ho hrd hah
      cases L with
      | nil =>
        obtain rfl : m = 0 := by simpa using hl.symm
        repeat' ((fail_if_success (with_reducible refine stop_append rfl ?_)); (fail_if_success (with_reducible refine stop_copy rfl ?_)); first | go_values | go_skip | go_guarded | go_step | go_upon | (simp only []; go_at_K))
        ((with_reducible refine C.mono ?_); rintro e w5 ⟨rfl, hu5⟩)
        repeat' ((fail_if_success (with_reducible refine stop_append rfl ?_)); (fail_if_success (with_reducible refine stop_copy rfl ?_)); first | go_values | go_skip | go_guarded | go_step | go_upon | (simp only []; go_at_K))
        go_ret
        exact ⟨rfl, U4.trans hu5⟩
      | cons o r =>
        have hm0 : (0 : Int) < (m : Int) := by rw [← hl]; simp
        have hm1 : ((m : Int) == 0) = false := by apply beq_false_of_ne; omega
        repeat' ((fail_if_success (with_reducible refine stop_append rfl ?_)); (fail_if_success (with_reducible refine stop_copy rfl ?_)); first | go_values | go_skip | go_guarded | go_step | go_upon | (simp only []; go_at_K))
        ((with_reducible refine C.mono ?_); rintro e w5 ⟨rfl, hu5⟩)
        have hrd5 : RdS Ord.cells 7 w5 A3 m (o :: r) := ⟨hrdr.len, hrdr.rd.upd hu5 (by simp)⟩
        obtain ⟨ad, rfl, -, -, -, p3, -, -, -⟩ := ord_at hrd5 (i := 0) (by simp)
        have p3' : w5.cell? ⟨ad.block, ad.off + 3, none⟩ = some (.int .i64 o.price) := by simpa [Addr.add] using p3
        clear hrd5 hrdr p3 C
        repeat' ((fail_if_success (with_reducible refine stop_append rfl ?_)); (fail_if_success (with_reducible refine stop_copy rfl ?_)); first | go_values | go_skip | go_guarded | go_step | go_upon | (simp only []; go_at_K))
        go_ret
        exact ⟨by simp [bestO], U4.trans hu5⟩
end Go.Proofs.Ytlkgmedkphcjpaa
