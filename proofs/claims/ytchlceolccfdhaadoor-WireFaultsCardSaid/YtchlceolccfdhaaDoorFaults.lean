/- agiolaw02.WireFaults, walked. -/
import Derived.Test.YtchlceolccfdhaaDoorJoin4
import Derived.Test.YtchlceolccfdhaaDoorIs
import Derived.Test.YtchlceolccfdhaaDoorAwake2
namespace Go.Proofs.YtchlceolccfdhaaDoor
open Go.RowKit Agio

theorem tk_range (most : Int) (l : List UInt8) : (tk most l).2.2 ≤ 8 := by
  have hu := uv_bad (l := l)
  unfold tk upt
  by_cases h : (uv l).2.2 = 0
  · simp only [h, if_true]
    split
    · split
      · simp
      · simp
    · split
      · simp
      · simp
  · have := (hu h).2.2
    simp only [h, if_false]
    omega

set_option maxRecDepth 100000 in
set_option maxHeartbeats 4000000 in
theorem wireFaults_any (w : World) (hG : GoodG w) (B : Option Addr) (m d : Nat) (b : List UInt8) (hB : RdB w B m b) (hb : b.length ≤ 140737488355328) (most : Int) (hm : I64 most) :
    Calls Tryd.prog 7 #[.slice B m d, .int .i64 most] w fun ev w' => ev = .returned (.bool true) ∧ Upd [] [] w w' := by
  obtain rfl := hB.len
  obtain ⟨xs, k, bad, hu⟩ : ∃ xs k bad, tk most b = (xs, k, bad) := ⟨_, _, _, rfl⟩
  have hr8 := tk_range most b
  rw [hu] at hr8
  simp only at hr8
  have HU := Lib.hid hu; clear hu
  go_enter Tryd.func7, Tryd.ntmps7
  repeat' ((fail_if_success (with_reducible refine stop_append rfl ?_)); (fail_if_success (with_reducible refine stop_copy rfl ?_)); first | go_values | go_skip | go_guarded | go_step | go_upon | (simp only []; go_at_K))
  refine (awake02 w hG).mono ?_
  rintro ev w1 ⟨rfl, hu1⟩
  repeat' ((fail_if_success (with_reducible refine stop_append rfl ?_)); (fail_if_success (with_reducible refine stop_copy rfl ?_)); first | go_values | go_skip | go_guarded | go_step | go_upon | (simp only []; go_at_K))
  refine (wireFrom w1 B b.length d b (hB.upd hu1 (by simp)) hb).mono ?_
  rintro ev w2 ⟨g, A2, k2, c2, rfl, hrr, hu2⟩
  have U2 : Upd [] [g] w w2 := by
    have h := hu1.trans hu2
    exact h.gives (fun j hj => h.fresh j (by simp at hj; simp [hj]))
  have C := readerBytes w2 g A2 k2 c2 b 0 most hm hrr hb
  rw [List.drop_zero, HU.out] at C
  clear hu1 hu2 hrr
  by_cases hz : bad = 0
  · subst hz
    simp only [flt_zero] at C
    repeat' ((fail_if_success (with_reducible refine stop_append rfl ?_)); (fail_if_success (with_reducible refine stop_copy rfl ?_)); first | go_values | go_skip | go_guarded | go_step | go_upon | (simp only []; go_at_K))
    refine C.mono ?_
    rintro ev w3 ⟨A3, k3, c3, rfl, ho3, hr3, hu3⟩
    repeat' ((fail_if_success (with_reducible refine stop_append rfl ?_)); (fail_if_success (with_reducible refine stop_copy rfl ?_)); first | go_values | go_skip | go_guarded | go_step | go_upon | (simp only []; go_at_K))
    go_ret
    exact ⟨rfl, (U2.trans hu3).gives (by simp)⟩
  · simp only [flt_pos hz] at C
    have hz1 : 1 ≤ bad := by omega
    clear hz HU
    repeat' ((fail_if_success (with_reducible refine stop_append rfl ?_)); (fail_if_success (with_reducible refine stop_copy rfl ?_)); first | go_values | go_skip | go_guarded | go_step | go_upon | (simp only []; go_at_K))
    refine C.mono ?_
    rintro ev w3 ⟨A3, k3, c3, rfl, ho3, hr3, hu3⟩
    have U3 : Upd [] [] w w3 := (U2.trans hu3).gives (by simp)
    clear C ho3 hr3 hu3 U2
    repeat' ((fail_if_success (with_reducible refine stop_append rfl ?_)); (fail_if_success (with_reducible refine stop_copy rfl ?_)); first | go_values | go_skip | go_guarded | go_step | go_upon | (simp only []; go_at_K))
    refine (errorsNew _ w3).mono ?_
    rintro ev w4 ⟨rfl, rfl⟩
    repeat' ((fail_if_success (with_reducible refine stop_append rfl ?_)); (fail_if_success (with_reducible refine stop_copy rfl ?_)); first | go_values | go_skip | go_guarded | go_step | go_upon | (simp only []; go_at_K))
    have hX := Blk.new (w3.alloc (.cells #[.string ⟨#[109, 111, 114, 101]⟩] 127)) 36 #[.iface 125 (.pointer (some ⟨w3.heap.size, 0, none⟩)), .iface 133 (.agg #[.int .i64 (bad : Int), .int .i64 0])]
    rw [World.size_alloc] at hX
    have x0 := hX.cell 0
    have x1 := hX.cell 1
    simp at x0 x1
    refine (errorsJoin (.pointer (some ⟨w3.heap.size, 0, none⟩)) (.wf bad 0) ⟨w3.heap.size + 1, 0, none⟩ 2 _ (by simp) (by simp [Addr.add, Er.val])).mono ?_
    rintro ev w5 ⟨j, rfl, hJ, hu5⟩
    have U5 := ((U3.alloc _).alloc _).trans hu5
    clear hX x0 x1 U3 hu5
    repeat' ((fail_if_success (with_reducible refine stop_append rfl ?_)); (fail_if_success (with_reducible refine stop_copy rfl ?_)); first | go_values | go_skip | go_guarded | go_step | go_upon | (simp only []; go_at_K))
    go_loopw [10, 11] (fun v10 v11 wr => ∃ n : Nat, 1 ≤ n ∧ n ≤ 15 ∧ v11 = .int .i64 (n : Int) ∧ v10 = .int .i64 (if bad < n then 1 else 0) ∧ Joined wr j (.pointer (some ⟨w3.heap.size, 0, none⟩)) (.wf bad 0) ∧ Upd [] [] w wr)
      (fun _ v11 _ => 15 - (intOf v11).toNat)
    case atStart => exact ⟨1, by omega, by omega, rfl, by rw [if_neg (by omega)], hJ, U5⟩
    case round =>
      clear hJ U5
      obtain ⟨n, hn1, hn2, rfl, rfl, hJ, U⟩ := hrel
      have hcnt : (if bad < n then 1 else 0 : Int) = if bad < n then 1 else 0 := rfl
      by_cases hlt : n ≤ 14
      · have I := errorsIs (.wf bad 0) (n : Int)
        simp only [Er.code, Er.val] at I
        by_cases he : bad = n
        · have hbe : ((bad : Int) == (n : Int)) = true := by simp; omega
          simp only [hbe] at I
          rw [if_neg (by omega)]
          clear hbe hcnt
          have HE := Lib.hid he; clear he
          repeat' ((fail_if_success (with_reducible refine stop_append rfl ?_)); (fail_if_success (with_reducible refine stop_copy rfl ?_)); first | go_values | go_skip | go_guarded | go_step | go_upon | (simp only []; go_at_K))
          refine (I _).mono ?_
          rintro ev w6 ⟨rfl, hu6⟩
          clear I
          repeat' ((fail_if_success (with_reducible refine stop_append rfl ?_)); (fail_if_success (with_reducible refine stop_copy rfl ?_)); first | go_values | go_skip | go_guarded | go_step | go_upon | (simp only []; go_at_K))
          refine ⟨⟨n + 1, by omega, by omega, by simp, by rw [if_pos (by have := HE.out; omega)], hJ.upd hu6, U.trans hu6⟩, by simp [intOf] <;> omega⟩
        · have hbe : ((bad : Int) == (n : Int)) = false := by simp; omega
          simp only [hbe] at I
          have hif : (if bad < n + 1 then (1 : Int) else 0) = if bad < n then 1 else 0 := by
            by_cases h : bad < n
            · rw [if_pos h, if_pos (by omega)]
            · rw [if_neg h, if_neg (by omega)]
          have HF := Lib.hid hif; clear hif hbe hcnt
          generalize (if bad < n then (1 : Int) else 0) = cnt at *
          repeat' ((fail_if_success (with_reducible refine stop_append rfl ?_)); (fail_if_success (with_reducible refine stop_copy rfl ?_)); first | go_values | go_skip | go_guarded | go_step | go_upon | (simp only []; go_at_K))
          refine (I _).mono ?_
          rintro ev w6 ⟨rfl, hu6⟩
          clear I
          repeat' ((fail_if_success (with_reducible refine stop_append rfl ?_)); (fail_if_success (with_reducible refine stop_copy rfl ?_)); first | go_values | go_skip | go_guarded | go_step | go_upon | (simp only []; go_at_K))
          refine ⟨⟨n + 1, by omega, by omega, by simp, by rw [HF.out], hJ.upd hu6, U.trans hu6⟩, by simp [intOf] <;> omega⟩
      · rw [if_pos (by omega)]
        clear hcnt
        have hG5 := hG.upd U (by simp)
        have A1 := fun W hG => atEr (.wf bad 0) W hG
        have C1 := fun W hG => codeEr (.wf bad 0) W hG
        simp only [Er.at_, Er.val, Er.code, Option.getD] at A1 C1
        repeat' ((fail_if_success (with_reducible refine stop_append rfl ?_)); (fail_if_success (with_reducible refine stop_copy rfl ?_)); first | go_values | go_skip | go_guarded | go_step | go_upon | (simp only []; go_at_K))
        refine (A1 wr hG5).mono ?_
        rintro ev w6 ⟨rfl, hu6⟩
        have hG6 := hG5.upd hu6 (by simp)
        have U6 := U.trans hu6
        have hJ6 := hJ.upd hu6
        clear U hu6 hJ hG5
        repeat' ((fail_if_success (with_reducible refine stop_append rfl ?_)); (fail_if_success (with_reducible refine stop_copy rfl ?_)); first | go_values | go_skip | go_guarded | go_step | go_upon | (simp only []; go_at_K))
        refine (A1 w6 hG6).mono ?_
        rintro ev w7 ⟨rfl, hu7⟩
        have hG7 := hG6.upd hu7 (by simp)
        have U7 := U6.trans hu7
        have hJ7 := hJ6.upd hu7
        clear U6 hu7 hJ6 hG6
        repeat' ((fail_if_success (with_reducible refine stop_append rfl ?_)); (fail_if_success (with_reducible refine stop_copy rfl ?_)); first | go_values | go_skip | go_guarded | go_step | go_upon | (simp only []; go_at_K))
        refine (codeJoined _ (.wf bad 0) j w7 hG7 hJ7).mono ?_
        rintro ev w8 ⟨rfl, hu8⟩
        have hG8 := hG7.upd hu8 (by simp)
        have U8 := U7.trans hu8
        have hJ8 := hJ7.upd hu8
        clear U7 hu8 hJ7 hG7
        simp only [Er.code]
        repeat' ((fail_if_success (with_reducible refine stop_append rfl ?_)); (fail_if_success (with_reducible refine stop_copy rfl ?_)); first | go_values | go_skip | go_guarded | go_step | go_upon | (simp only []; go_at_K))
        refine (C1 w8 hG8).mono ?_
        rintro ev w9 ⟨rfl, hu9⟩
        have hG9 := hG8.upd hu9 (by simp)
        have U9 := U8.trans hu9
        have hJ9 := hJ8.upd hu9
        clear U8 hu9 hJ8 hG8 C1
        repeat' ((fail_if_success (with_reducible refine stop_append rfl ?_)); (fail_if_success (with_reducible refine stop_copy rfl ?_)); first | go_values | go_skip | go_guarded | go_step | go_upon | (simp only []; go_at_K))
        refine (atJoined _ (.wf bad 0) 0 rfl j w9 hG9 hJ9).mono ?_
        rintro ev w10 ⟨rfl, hu10⟩
        have hG10 := hG9.upd hu10 (by simp)
        have U10 := U9.trans hu10
        clear U9 hu10 hJ9 hG9
        repeat' ((fail_if_success (with_reducible refine stop_append rfl ?_)); (fail_if_success (with_reducible refine stop_copy rfl ?_)); first | go_values | go_skip | go_guarded | go_step | go_upon | (simp only []; go_at_K))
        refine (A1 w10 hG10).mono ?_
        rintro ev w11 ⟨rfl, hu11⟩
        have hG11 := hG10.upd hu11 (by simp)
        have U11 := U10.trans hu11
        clear U10 hu11 hG10 A1
        repeat' ((fail_if_success (with_reducible refine stop_append rfl ?_)); (fail_if_success (with_reducible refine stop_copy rfl ?_)); first | go_values | go_skip | go_guarded | go_step | go_upon | (simp only []; go_at_K))
        refine (errorsNew _ w11).mono ?_
        rintro ev w12 ⟨rfl, rfl⟩
        repeat' ((fail_if_success (with_reducible refine stop_append rfl ?_)); (fail_if_success (with_reducible refine stop_copy rfl ?_)); first | go_values | go_skip | go_guarded | go_step | go_upon | (simp only []; go_at_K))
        refine (codeStr _ _ (hG11.alloc _)).mono ?_
        rintro ev w13 ⟨rfl, hu13⟩
        repeat' ((fail_if_success (with_reducible refine stop_append rfl ?_)); (fail_if_success (with_reducible refine stop_copy rfl ?_)); first | go_values | go_skip | go_guarded | go_step | go_upon | (simp only []; go_at_K))
        go_ret
        exact ⟨rfl, (U11.alloc _).trans hu13⟩
end Go.Proofs.YtchlceolccfdhaaDoor
