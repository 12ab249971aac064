/- agiolaw02.told, one, WireReads, walked. -/
import Derived.Test.YtchlceolccfdhaaDoorTake
import Derived.Test.YtchlceolccfdhaaDoorIs
import Derived.Test.YtchlceolccfdhaaDoorAwake2
import Derived.Test.YtchlceolccfdhaaDoorStructs
namespace Go.Proofs.YtchlceolccfdhaaDoor
open Go.RowKit Agio

set_option maxRecDepth 100000 in
set_option maxHeartbeats 1000000 in
theorem told_ok (bad a : Nat) (w : World) (hG : GoodG w) :
    Calls Tryd.prog 69 #[flt bad a, .int .i64 (bad : Int), .int .i64 (a : Int)] w fun e w' => e = .returned (.bool true) ∧ Upd [] [] w w' := by
  by_cases h0 : bad = 0
  · subst h0
    rw [flt_zero]
    go_enter Tryd.func69, Tryd.ntmps69
    repeat' ((fail_if_success (with_reducible refine stop_append rfl ?_)); (fail_if_success (with_reducible refine stop_copy rfl ?_)); first | go_values | go_skip | go_guarded | go_step | go_upon | (simp only []; go_at_K))
    refine (codeNil w).mono ?_
    rintro e w1 ⟨rfl, hu1⟩
    repeat' ((fail_if_success (with_reducible refine stop_append rfl ?_)); (fail_if_success (with_reducible refine stop_copy rfl ?_)); first | go_values | go_skip | go_guarded | go_step | go_upon | (simp only []; go_at_K))
    refine (atNil w1).mono ?_
    rintro e w2 ⟨rfl, hu2⟩
    repeat' ((fail_if_success (with_reducible refine stop_append rfl ?_)); (fail_if_success (with_reducible refine stop_copy rfl ?_)); first | go_values | go_skip | go_guarded | go_step | go_upon | (simp only []; go_at_K))
    go_ret
    exact ⟨rfl, hu1.trans hu2⟩
  · rw [flt_pos h0]
    have h0' : ((bad : Int) == 0) = false := by simp; omega
    clear h0
    go_enter Tryd.func69, Tryd.ntmps69
    repeat' ((fail_if_success (with_reducible refine stop_append rfl ?_)); (fail_if_success (with_reducible refine stop_copy rfl ?_)); first | go_values | go_skip | go_guarded | go_step | go_upon | (simp only []; go_at_K))
    refine (codeEr (.wf bad a) w hG).mono ?_
    rintro e w1 ⟨rfl, hu1⟩
    have hG1 := hG.upd hu1 (by simp)
    simp only [Er.code]
    repeat' ((fail_if_success (with_reducible refine stop_append rfl ?_)); (fail_if_success (with_reducible refine stop_copy rfl ?_)); first | go_values | go_skip | go_guarded | go_step | go_upon | (simp only []; go_at_K))
    refine (atEr (.wf bad a) w1 hG1).mono ?_
    rintro e w2 ⟨rfl, hu2⟩
    simp only [Er.at_, Option.getD]
    repeat' ((fail_if_success (with_reducible refine stop_append rfl ?_)); (fail_if_success (with_reducible refine stop_copy rfl ?_)); first | go_values | go_skip | go_guarded | go_step | go_upon | (simp only []; go_at_K))
    refine (errorsIs (.wf bad a) (bad : Int) w2).mono ?_
    rintro e w3 ⟨rfl, hu3⟩
    simp only [Er.code, beq_self_eq_true]
    repeat' ((fail_if_success (with_reducible refine stop_append rfl ?_)); (fail_if_success (with_reducible refine stop_copy rfl ?_)); first | go_values | go_skip | go_guarded | go_step | go_upon | (simp only []; go_at_K))
    go_ret
    exact ⟨rfl, (hu1.trans hu2).trans hu3⟩

/-- What an ask does: how many bytes are read. -/
def askN (kind most : Int) (l : List UInt8) : Nat :=
  if kind = 0 then (uv l).2.1 else if kind = 1 then (uv l).2.1 else if kind = 2 then (upt most l).2.1 else if kind = 3 then (tk most l).2.1 else 0
theorem uv_le (l : List UInt8) : (uv l).2.1 ≤ l.length := by
  by_cases h : (uv l).2.2 = 0
  · exact (uv_ok h).2.1
  · rw [(uv_bad h).2.1]; omega
theorem upt_le (most : Int) (l : List UInt8) : (upt most l).2.1 ≤ l.length := by
  by_cases h : (upt most l).2.2 = 0
  · rw [(upt_ok h).2.1]; exact uv_le l
  · rw [(upt_bad h).2]; omega
theorem tk_le (most : Int) (l : List UInt8) : (tk most l).2.1 ≤ l.length := by
  have := upt_le most l
  unfold tk
  split
  · split
    · simp
    · simp only; omega
  · simp
theorem askN_le (kind most : Int) (l : List UInt8) : askN kind most l ≤ l.length := by
  unfold askN
  split
  · exact uv_le l
  · split
    · exact uv_le l
    · split
      · exact upt_le most l
      · split
        · exact tk_le most l
        · omega

set_option maxRecDepth 100000 in
set_option maxHeartbeats 4000000 in
theorem one_ok (w : World) (hG : GoodG w) (g : Nat) (A : Option Addr) (k c : Nat) (b : List UInt8) (a : Nat) (hr : Rr w g A k c b a) (hb : b.length ≤ 140737488355328)
    (B : Option Addr) (d : Nat) (hB : RdB w B b.length b) (hd : b.length ≤ d) (hdm : d ≤ maxLen) (hgB : 0 < b.length → ∀ j ∈ ablk B, j ∉ [g]) (hg0 : 0 < g) (kind most : Int) (hm : I64 most) :
    Calls Tryd.prog 36 #[.pointer (some ⟨g, 0, none⟩), .slice B b.length d, .int .i64 (a : Int), .agg #[.int .i64 kind, .int .i64 most]] w
      fun e w' => e = .returned (.tuple #[.bool true, .int .i64 (askN kind most (b.drop a) : Int)]) ∧ Rr w' g A k c b (a + askN kind most (b.drop a)) ∧ Upd [g] [g] w w' := by
  have hle := hr.le
  have hr0 : Rr (w.alloc (.cells #[.int .i64 kind, .int .i64 most] 65)) g A k c b a := hr.upd ((Upd.refl [] w).alloc _) (by simp)
  have hG0 : GoodG (w.alloc (.cells #[.int .i64 kind, .int .i64 most] 65)) := hG.alloc _
  have hu0 : Upd [g] [g] w (w.alloc (.cells #[.int .i64 kind, .int .i64 most] 65)) := (Upd.refl _ _).alloc _
  by_cases h0 : kind = 0
  · have h0' : (kind == 0) = true := by simp [h0]
    have EN : Hid (askN kind most (b.drop a) = (uv (b.drop a)).2.1) := by unfold askN Hid; rw [if_pos h0]
    have C := readerUint _ g A k c b a hr0 hb
    clear h0
    go_enter Tryd.func36, Tryd.ntmps36
    repeat' ((fail_if_success (with_reducible refine stop_append rfl ?_)); (fail_if_success (with_reducible refine stop_copy rfl ?_)); first | go_values | go_skip | go_guarded | go_step | go_upon | (simp only []; go_at_K))
    refine C.mono ?_
    rintro e w1 ⟨rfl, hr1, hu1⟩
    have hU1 := hu0.trans hu1
    have hB1 := hB.upd' hU1 hgB
    have hG1 := hG.upd hU1 (by simp; omega)
    clear C hu1 hu0 hr0 hG0
    repeat' ((fail_if_success (with_reducible refine stop_append rfl ?_)); (fail_if_success (with_reducible refine stop_copy rfl ?_)); first | go_values | go_skip | go_guarded | go_step | go_upon | (simp only []; go_at_K))
    refine (refGet w1 B b.length d b hB1 hb a hle).mono ?_
    rintro e w2 ⟨rfl, rfl⟩
    repeat' ((fail_if_success (with_reducible refine stop_append rfl ?_)); (fail_if_success (with_reducible refine stop_copy rfl ?_)); first | go_values | go_skip | go_guarded | go_step | go_upon | (simp only []; go_at_K))
    refine (told_ok _ a w1 hG1).mono ?_
    rintro e w3 ⟨rfl, hu3⟩
    repeat' ((fail_if_success (with_reducible refine stop_append rfl ?_)); (fail_if_success (with_reducible refine stop_copy rfl ?_)); first | go_values | go_skip | go_guarded | go_step | go_upon | (simp only []; go_at_K))
    go_ret2
    rw [EN.out]
    exact ⟨rfl, hr1.upd hu3 (by simp), hU1.trans (hu3.up _)⟩
  · have h0' : (kind == 0) = false := by simp [h0]
    by_cases h1 : kind = 1
    · have h1' : (kind == 1) = true := by simp [h1]
      have EN : Hid (askN kind most (b.drop a) = (uv (b.drop a)).2.1) := by unfold askN Hid; rw [if_neg h0, if_pos h1]
      have C := readerInt _ g A k c b a hr0 hb
      have hok := uv_ok (l := b.drop a)
      have hbad := uv_bad (l := b.drop a)
      have D := fun w1 hB1 => refGet w1 B b.length d b hB1 hb a hle
      obtain ⟨m, sz, bad, hu⟩ : ∃ m sz bad, uv (b.drop a) = (m, sz, bad) := ⟨_, _, _, rfl⟩
      rw [hu] at C EN hok hbad
      simp only [hu] at D
      clear h0 h1 hu
      by_cases hz : bad = 0
      · subst hz
        have hU := (hok rfl).2.2.2
        clear hok hbad
        go_enter Tryd.func36, Tryd.ntmps36
        repeat' ((fail_if_success (with_reducible refine stop_append rfl ?_)); (fail_if_success (with_reducible refine stop_copy rfl ?_)); first | go_values | go_skip | go_guarded | go_step | go_upon | (simp only []; go_at_K))
        refine C.mono ?_
        rintro e w1 ⟨rfl, hr1, hu1⟩
        have hU1 := hu0.trans hu1
        have hB1 := hB.upd' hU1 hgB
        have hG1 := hG.upd hU1 (by simp; omega)
        have D := D w1 hB1
        clear C hu1 hu0 hr0 hG0
        repeat' ((fail_if_success (with_reducible refine stop_append rfl ?_)); (fail_if_success (with_reducible refine stop_copy rfl ?_)); first | go_values | go_skip | go_guarded | go_step | go_upon | (simp only []; go_at_K))
        refine D.mono ?_
        rintro e w2 ⟨rfl, rfl⟩
        clear D
        repeat' ((fail_if_success (with_reducible refine stop_append rfl ?_)); (fail_if_success (with_reducible refine stop_copy rfl ?_)); first | go_values | go_skip | go_guarded | go_step | go_upon | (simp only []; go_at_K))
        refine (refZag m w1 hU).mono ?_
        rintro e w3 ⟨rfl, rfl⟩
        repeat' ((fail_if_success (with_reducible refine stop_append rfl ?_)); (fail_if_success (with_reducible refine stop_copy rfl ?_)); first | go_values | go_skip | go_guarded | go_step | go_upon | (simp only []; go_at_K))
        refine (told_ok 0 a w1 hG1).mono ?_
        rintro e w3 ⟨rfl, hu3⟩
        repeat' ((fail_if_success (with_reducible refine stop_append rfl ?_)); (fail_if_success (with_reducible refine stop_copy rfl ?_)); first | go_values | go_skip | go_guarded | go_step | go_upon | (simp only []; go_at_K))
        go_ret2
        rw [EN.out]
        exact ⟨rfl, hr1.upd hu3 (by simp), hU1.trans (hu3.up _)⟩
      · have hz' : ((bad : Int) == 0) = false := by simp; omega
        have hzn : ((bad : Int) != 0) = true := by simp; omega
        obtain ⟨rfl, rfl, -⟩ := hbad hz
        have hz0 : zag 0 = 0 := rfl
        rw [hz0] at C
        clear hok hz hz0
        go_enter Tryd.func36, Tryd.ntmps36
        repeat' ((fail_if_success (with_reducible refine stop_append rfl ?_)); (fail_if_success (with_reducible refine stop_copy rfl ?_)); first | go_values | go_skip | go_guarded | go_step | go_upon | (simp only []; go_at_K))
        refine C.mono ?_
        rintro e w1 ⟨rfl, hr1, hu1⟩
        have hU1 := hu0.trans hu1
        have hB1 := hB.upd' hU1 hgB
        have hG1 := hG.upd hU1 (by simp; omega)
        have D := D w1 hB1
        clear C hu1 hu0 hr0 hG0
        repeat' ((fail_if_success (with_reducible refine stop_append rfl ?_)); (fail_if_success (with_reducible refine stop_copy rfl ?_)); first | go_values | go_skip | go_guarded | go_step | go_upon | (simp only []; go_at_K))
        refine D.mono ?_
        rintro e w2 ⟨rfl, rfl⟩
        clear D
        repeat' ((fail_if_success (with_reducible refine stop_append rfl ?_)); (fail_if_success (with_reducible refine stop_copy rfl ?_)); first | go_values | go_skip | go_guarded | go_step | go_upon | (simp only []; go_at_K))
        refine (told_ok bad a w1 hG1).mono ?_
        rintro e w3 ⟨rfl, hu3⟩
        repeat' ((fail_if_success (with_reducible refine stop_append rfl ?_)); (fail_if_success (with_reducible refine stop_copy rfl ?_)); first | go_values | go_skip | go_guarded | go_step | go_upon | (simp only []; go_at_K))
        go_ret2
        rw [EN.out]
        exact ⟨rfl, hr1.upd hu3 (by simp), hU1.trans (hu3.up _)⟩
    · have h1' : (kind == 1) = false := by simp [h1]
      by_cases h2 : kind = 2
      · have h2' : (kind == 2) = true := by simp [h2]
        have EN : Hid (askN kind most (b.drop a) = (upt most (b.drop a)).2.1) := by unfold askN Hid; rw [if_neg h0, if_neg h1, if_pos h2]
        have C := readerSmall _ g A k c b a most hm hr0 hb
        clear h0 h1 h2
        go_enter Tryd.func36, Tryd.ntmps36
        repeat' ((fail_if_success (with_reducible refine stop_append rfl ?_)); (fail_if_success (with_reducible refine stop_copy rfl ?_)); first | go_values | go_skip | go_guarded | go_step | go_upon | (simp only []; go_at_K))
        refine C.mono ?_
        rintro e w1 ⟨rfl, hr1, hu1⟩
        have hU1 := hu0.trans hu1
        have hB1 := hB.upd' hU1 hgB
        have hG1 := hG.upd hU1 (by simp; omega)
        have hc1 : w1.cell? ⟨w.heap.size, 1, none⟩ = some (.int .i64 most) := hu1.cell (by simp) (by simp; have := hr.blk.lt; omega)
        clear C hu1 hu0 hr0 hG0
        repeat' ((fail_if_success (with_reducible refine stop_append rfl ?_)); (fail_if_success (with_reducible refine stop_copy rfl ?_)); first | go_values | go_skip | go_guarded | go_step | go_upon | (simp only []; go_at_K))
        refine (refSmall w1 B b.length d b hB1 hb a hle most hm).mono ?_
        rintro e w2 ⟨rfl, rfl⟩
        repeat' ((fail_if_success (with_reducible refine stop_append rfl ?_)); (fail_if_success (with_reducible refine stop_copy rfl ?_)); first | go_values | go_skip | go_guarded | go_step | go_upon | (simp only []; go_at_K))
        refine (told_ok _ a w1 hG1).mono ?_
        rintro e w3 ⟨rfl, hu3⟩
        repeat' ((fail_if_success (with_reducible refine stop_append rfl ?_)); (fail_if_success (with_reducible refine stop_copy rfl ?_)); first | go_values | go_skip | go_guarded | go_step | go_upon | (simp only []; go_at_K))
        go_ret2
        rw [EN.out]
        exact ⟨rfl, hr1.upd hu3 (by simp), hU1.trans (hu3.up _)⟩
      · have h2' : (kind == 2) = false := by simp [h2]
        by_cases h3 : kind = 3
        · have h3' : (kind == 3) = true := by simp [h3]
          have EN : Hid (askN kind most (b.drop a) = (tk most (b.drop a)).2.1) := by unfold askN Hid; rw [if_neg h0, if_neg h1, if_neg h2, if_pos h3]
          have C := readerBytes _ g A k c b a most hm hr0 hb
          clear h0 h1 h2 h3
          go_enter Tryd.func36, Tryd.ntmps36
          repeat' ((fail_if_success (with_reducible refine stop_append rfl ?_)); (fail_if_success (with_reducible refine stop_copy rfl ?_)); first | go_values | go_skip | go_guarded | go_step | go_upon | (simp only []; go_at_K))
          refine C.mono ?_
          rintro e w1 ⟨A1, k1, c1, rfl, ho1, hr1, hu1⟩
          have hU1 : Upd [g] [g] w w1 := (hu0.trans hu1).gives (by simp)
          have hB1 := hB.upd' hU1 hgB
          have hG1 := hG.upd hU1 (by simp; omega)
          have hc1 : w1.cell? ⟨w.heap.size, 1, none⟩ = some (.int .i64 most) := hu1.cell (by simp) (by simp; have := hr.blk.lt; omega)
          clear C hu1 hu0 hr0 hG0
          repeat' ((fail_if_success (with_reducible refine stop_append rfl ?_)); (fail_if_success (with_reducible refine stop_copy rfl ?_)); first | go_values | go_skip | go_guarded | go_step | go_upon | (simp only []; go_at_K))
          refine (refTake w1 B b.length d b hB1 hd hdm hb a hle most hm).mono ?_
          rintro e w2 ⟨A2, k2, c2, rfl, ho2, hu2⟩
          have hs1 := strOf (ho1.rd.upd hu2 (by simp)) c1
          have hs2 := strOf ho2.rd c2
          have hU2 := hU1.trans (hu2.up [g])
          have hU2 : Upd [g] [g] w w2 := hU1.trans (hu2.mono (by simp) (by simp))
          have hG2 := hG1.upd hu2 (by simp)
          repeat' ((fail_if_success (with_reducible refine stop_append rfl ?_)); (fail_if_success (with_reducible refine stop_copy rfl ?_)); first | go_values | go_skip | go_guarded | go_step | go_upon | (simp only []; go_at_K))
          refine (told_ok _ a w2 hG2).mono ?_
          rintro e w3 ⟨rfl, hu3⟩
          repeat' ((fail_if_success (with_reducible refine stop_append rfl ?_)); (fail_if_success (with_reducible refine stop_copy rfl ?_)); first | go_values | go_skip | go_guarded | go_step | go_upon | (simp only []; go_at_K))
          go_ret2
          rw [EN.out]
          exact ⟨rfl, (hr1.upd hu2 (by simp)).upd hu3 (by simp), hU2.trans (hu3.up _)⟩
        · have h3' : (kind == 3) = false := by simp [h3]
          have EN : Hid (askN kind most (b.drop a) = 0) := by unfold askN Hid; rw [if_neg h0, if_neg h1, if_neg h2, if_neg h3]
          have C := readerEnd _ g A k c b a hr0 hb
          clear h0 h1 h2 h3
          by_cases hlt : a < b.length
          · rw [if_pos hlt] at C
            go_enter Tryd.func36, Tryd.ntmps36
            repeat' ((fail_if_success (with_reducible refine stop_append rfl ?_)); (fail_if_success (with_reducible refine stop_copy rfl ?_)); first | go_values | go_skip | go_guarded | go_step | go_upon | (simp only []; go_at_K))
            refine C.mono ?_
            rintro e w1 ⟨rfl, nq, rfl⟩
            have hU1 := hu0.drewN nq
            have hr1 := hr0.drewN nq
            clear C hu0 hr0
            have T := told_ok 2 a ((w.alloc (.cells #[.int .i64 kind, .int .i64 most] 65)).drewN nq) hG0
            rw [show ((2 : Nat) : Int) = 2 from rfl] at T
            repeat' ((fail_if_success (with_reducible refine stop_append rfl ?_)); (fail_if_success (with_reducible refine stop_copy rfl ?_)); first | go_values | go_skip | go_guarded | go_step | go_upon | (simp only []; go_at_K))
            refine T.mono ?_
            rintro e w3 ⟨rfl, hu3⟩
            repeat' ((fail_if_success (with_reducible refine stop_append rfl ?_)); (fail_if_success (with_reducible refine stop_copy rfl ?_)); first | go_values | go_skip | go_guarded | go_step | go_upon | (simp only []; go_at_K))
            go_ret2
            rw [EN.out]
            exact ⟨rfl, hr1.upd hu3 (by simp), hU1.trans (hu3.up _)⟩
          · rw [if_neg hlt] at C
            go_enter Tryd.func36, Tryd.ntmps36
            repeat' ((fail_if_success (with_reducible refine stop_append rfl ?_)); (fail_if_success (with_reducible refine stop_copy rfl ?_)); first | go_values | go_skip | go_guarded | go_step | go_upon | (simp only []; go_at_K))
            refine C.mono ?_
            rintro e w1 ⟨rfl, nq, rfl⟩
            have hU1 := hu0.drewN nq
            have hr1 := hr0.drewN nq
            clear C hu0 hr0
            have T := told_ok 0 a ((w.alloc (.cells #[.int .i64 kind, .int .i64 most] 65)).drewN nq) hG0
            rw [show ((0 : Nat) : Int) = 0 from rfl] at T
            repeat' ((fail_if_success (with_reducible refine stop_append rfl ?_)); (fail_if_success (with_reducible refine stop_copy rfl ?_)); first | go_values | go_skip | go_guarded | go_step | go_upon | (simp only []; go_at_K))
            refine T.mono ?_
            rintro e w3 ⟨rfl, hu3⟩
            repeat' ((fail_if_success (with_reducible refine stop_append rfl ?_)); (fail_if_success (with_reducible refine stop_copy rfl ?_)); first | go_values | go_skip | go_guarded | go_step | go_upon | (simp only []; go_at_K))
            go_ret2
            rw [EN.out]
            exact ⟨rfl, hr1.upd hu3 (by simp), hU1.trans (hu3.up _)⟩

/-- An ask. -/
structure Asked where
  kind : Int
  most : Int
def Asked.cells (x : Asked) : List Value := [.int .i64 x.kind, .int .i64 x.most]
theorem Asked.cells_len (x : Asked) : x.cells.length = 2 := rfl

set_option maxRecDepth 100000 in
set_option maxHeartbeats 4000000 in
theorem wireReads_any (w : World) (hG : GoodG w) (B : Option Addr) (m d : Nat) (b : List UInt8) (hB : RdB w B m b) (hd : m ≤ d) (hdm : d ≤ maxLen) (hb : b.length ≤ 140737488355328)
    (A : Option Addr) (n c : Nat) (l : List Asked) (hl : RdS Asked.cells 2 w A n l) (hm : ∀ x ∈ l, I64 x.most) :
    Calls Tryd.prog 8 #[.slice B m d, .slice A n c] w fun ev w' => ev = .returned (.bool true) ∧ Upd [] [] w w' := by
  obtain rfl := hB.len
  obtain rfl := hl.len
  have hBl := hB.lt
  go_enter Tryd.func8, Tryd.ntmps8
  repeat' ((fail_if_success (with_reducible refine stop_append rfl ?_)); (fail_if_success (with_reducible refine stop_copy rfl ?_)); first | go_values | go_skip | go_guarded | go_step | go_upon | (simp only []; go_at_K))
  refine (awake02 w hG).mono ?_
  rintro ev w1 ⟨rfl, hu1⟩
  repeat' ((fail_if_success (with_reducible refine stop_append rfl ?_)); (fail_if_success (with_reducible refine stop_copy rfl ?_)); first | go_values | go_skip | go_guarded | go_step | go_upon | (simp only []; go_at_K))
  refine (wireFrom w1 B b.length d b (hB.upd hu1 (by simp)) hb).mono ?_
  rintro ev w2 ⟨g, A2, k2, c2, rfl, hr2, hu2⟩
  have hU2 : Upd [] (g :: ablk A2) w w2 := hu1.trans hu2
  have hgw : w.heap.size ≤ g := by simpa using hU2.fresh g (by simp)
  have hg0 : 0 < g := by have := hG.pos; omega
  have hU2g : Upd [] [g] w w2 := hU2.gives (by simp; exact hgw)
  have hgB : 0 < b.length → ∀ j ∈ ablk B, j ∉ [g] := by intro h0 j hj; simp; rintro rfl; have := hBl h0 _ hj; omega
  clear hu1 hu2 hU2
  repeat' ((fail_if_success (with_reducible refine stop_append rfl ?_)); (fail_if_success (with_reducible refine stop_copy rfl ?_)); first | go_values | go_skip | go_guarded | go_step | go_upon | (simp only []; go_at_K))
  go_loopw [7, 8] (fun v7 v8 wr => ∃ (i a : Nat), i ≤ l.length ∧ i ≤ 60 ∧ v8 = .int .i64 (i : Int) ∧ v7 = .int .i64 (a : Int) ∧ Rr wr g A2 k2 c2 b a ∧ Upd [] [g] w wr)
    (fun _ v8 _ => 60 - (intOf v8).toNat)
  case atStart => exact ⟨0, 0, by omega, by omega, rfl, rfl, hr2, hU2g⟩
  case round =>
    obtain ⟨i, a, hi, hi60, rfl, rfl, hrr, hu⟩ := hrel
    by_cases hlt : i < l.length
    · by_cases hlt2 : i < 60
      · have hlr := hl.upd0 hu
        obtain ⟨ad, rfl, h0, h1⟩ := hlr.at_ Asked.cells_len hlt
        have h0 := h0 _ rfl
        have h1 := h1 1 _ (by omega) rfl
        have hmo := hm l[i] (List.getElem_mem hlt)
        have hBr := hB.upd hu (by simp)
        have hGr := hG.upd hu (by simp)
        have hN := askN_le l[i].kind l[i].most (b.drop a)
        rw [List.length_drop] at hN
        have hle := hrr.le
        generalize l[i] = x at *
        have C := one_ok wr hGr g A2 k2 c2 b a hrr hb B d hBr hd hdm hgB hg0 x.kind x.most hmo
        generalize askN x.kind x.most (b.drop a) = N at *
        have hne : (((b.length - (a + N) : Nat) : Int) != (b.length : Int) - ((a : Int) + (N : Int))) = false := by simp; omega
        have hNb : (N : Int) ≤ 140737488355328 := by omega
        have hab : (a : Int) ≤ 140737488355328 := by omega
        clear hN hle
        repeat' ((fail_if_success (with_reducible refine stop_append rfl ?_)); (fail_if_success (with_reducible refine stop_copy rfl ?_)); first | go_values | go_skip | go_guarded | go_step | go_upon | (simp only []; go_at_K))
        refine C.mono ?_
        rintro ev w3 ⟨rfl, hr3, hu3⟩
        clear C
        repeat' ((fail_if_success (with_reducible refine stop_append rfl ?_)); (fail_if_success (with_reducible refine stop_copy rfl ?_)); first | go_values | go_skip | go_guarded | go_step | go_upon | (simp only []; go_at_K))
        refine (readerLeft w3 g A2 k2 c2 b _ hr3 hb).mono ?_
        rintro ev w4 ⟨rfl, nq, rfl⟩
        repeat' ((fail_if_success (with_reducible refine stop_append rfl ?_)); (fail_if_success (with_reducible refine stop_copy rfl ?_)); first | go_values | go_skip | go_guarded | go_step | go_upon | (simp only []; go_at_K))
        refine ⟨⟨i + 1, a + N, by omega, by omega, rfl, by simp, hr3.drewN nq, (hu.trans hu3).drewN nq⟩, by simp [intOf] <;> omega⟩
      · repeat' ((fail_if_success (with_reducible refine stop_append rfl ?_)); (fail_if_success (with_reducible refine stop_copy rfl ?_)); first | go_values | go_skip | go_guarded | go_step | go_upon | (simp only []; go_at_K))
        go_ret
        exact ⟨rfl, hu.gives (b' := []) (by simp)⟩
    · repeat' ((fail_if_success (with_reducible refine stop_append rfl ?_)); (fail_if_success (with_reducible refine stop_copy rfl ?_)); first | go_values | go_skip | go_guarded | go_step | go_upon | (simp only []; go_at_K))
      go_ret
      exact ⟨rfl, hu.gives (b' := []) (by simp)⟩
end Go.Proofs.YtchlceolccfdhaaDoor
