/- alog.Lay and agioref07.Lay of any records; agioref07: Last, Slots; agiolaw07.AlogReads. -/
import Derived.Test.YtdmmpcdilkcfjaaAlog5
import Derived.Test.YtdmmpcdilkcfjaaRef07
import Derived.Test.YtdmmpcdilkcfjaaFrame
import Derived.Test.YtdmmpcdilkcfjaaLast
import Derived.Test.YtdmmpcdilkcfjaaSlots
import Derived.Test.YtdmmpcdilkcfjaaAlog7
import Derived.Test.YtdmmpcdilkcfjaaReadR
import Derived.Test.YtdmmpcdilkcfjaaAlog9
import Derived.Test.YtdmmpcdilkcfjaaAlogA
namespace Go.Proofs.Ytdmmpcdilkcfjaa
open Go.RowKit Agio

/-- What Lay tells. -/
def LayT (l : List Rv) (w : World) (e : Ending) (w' : World) : Prop :=
  ((∀ x ∈ l, x.rc.May) ∧ ∃ A' k' c', e = .returned (.tuple #[.slice A' k' c', .int .i64 0]) ∧ OwnB 5 w' A' k' c' (layB (rcs l)) ∧ Upd [] (ablk A') w w') ∨
  ((¬ ∀ x ∈ l, x.rc.May) ∧ e = .returned (.tuple #[.slice none 0 0, .int .i64 1]) ∧ Upd [] [] w w')
theorem layB_lenR {l : List Rv} (h : ∀ x ∈ l, x.rc.May) : (layB (rcs l)).length ≤ 2108 * l.length := by
  have := layB_len (l := rcs l) (fun r hr => by obtain ⟨x, hx, rfl⟩ := List.mem_map.1 hr; exact h x hx)
  simpa [rcs] using this

set_option maxRecDepth 100000 in
set_option maxHeartbeats 2000000 in
theorem alogLay_any (w : World) (A : Option Addr) (n c : Nat) (l : List Rv) (hr : Rvs w A n l) (hn : l.length ≤ 1000) :
    Calls Try.prog 28 #[.slice A n c] w (LayT l w) := by
  obtain rfl := hr.len
  go_enter Try.func28, Try.ntmps28
  repeat' ((fail_if_success (with_reducible refine stop_append rfl ?_)); (fail_if_success (with_reducible refine stop_copy rfl ?_)); first | go_values | go_skip | go_guarded | go_step | go_upon | (simp only []; go_at_K))
  go_loopw [4, 12] (fun v4 v12 wr => ∃ (i : Nat) (A1 : Option Addr) (k1 c1 : Nat), i ≤ l.length ∧ v12 = .int .i64 (i : Int) ∧ v4 = .slice A1 k1 c1 ∧ (∀ x ∈ l.take i, x.rc.May) ∧ OwnB 5 wr A1 k1 c1 (layB (rcs (l.take i))) ∧ Upd [] (ablk A1) w wr)
    (fun _ v12 _ => l.length - (intOf v12).toNat)
  case atStart => exact ⟨0, none, 0, 0, by omega, rfl, rfl, by simp, OwnB.nil _ _, Upd.refl _ _⟩
  case round =>
    obtain ⟨i, A1, k1, c1, hi, rfl, rfl, hmt, ho, hu⟩ := hrel
    by_cases hlt : i < l.length
    · have hrr := hr.upd hu
      obtain ⟨ad, rfl, q0, q1, q2, q3, q4⟩ := hrr.at_ hlt
      have hxr := hrr.each l[i] (List.getElem_mem hlt)
      have HS := Lib.hid (rcs_take hlt)
      have hbl := layB_lenR hmt
      rw [List.length_take] at hbl
      by_cases hxm : l[i].rc.May
      · have hmn : ∀ x ∈ l.take (i + 1), x.rc.May := fun x hx => by
          rw [List.take_succ_eq_append_getElem hlt] at hx
          rcases List.mem_append.1 hx with hx | hx
          · exact hmt x hx
          · rw [List.mem_singleton.1 hx]; exact hxm
        have HM := Lib.hid hmn
        have hxl := hxm.len
        clear hmn hmt
        generalize l[i] = x at *
        have hxv := x.val_eq
        have hpl := put_len x.rc.bytes
        have C := alogEncode x (wr.alloc (.cells #[.int .i64 x.k, .int .i64 x.s, .int .i64 x.r, .int .i64 x.t, .slice x.A x.n x.c] 77)) (hxr.alloc _) hxm
        rw [hxv] at C
        clear hxv hr
        repeat' ((fail_if_success (with_reducible refine stop_append rfl ?_)); (fail_if_success (with_reducible refine stop_copy rfl ?_)); first | go_values | go_skip | go_guarded | go_step | go_upon | (simp only []; go_at_K))
        ((with_reducible refine C.mono ?_); rintro e w1 ⟨A2, k2, c2, rfl, ho2, hu2⟩)
        have hu2 : Upd [] (ablk A2) wr w1 := ((Upd.refl [] wr).alloc _).trans hu2
        have ho1 := ho.upd hu2 (by simp)
        clear q0 q1 q2 q3 q4 C ho
        repeat' ((fail_if_success (with_reducible refine stop_append rfl ?_)); (fail_if_success (with_reducible refine stop_copy rfl ?_)); first | go_values | go_skip | go_guarded | go_step | go_upon | (simp only []; go_at_K))
        ((with_reducible refine (framePut w1 A2 k2 c2 _ ho2.rd (by omega)).mono ?_); rintro e w2 ⟨A3, k3, c3, rfl, ho3, hu3⟩)
        have ho1' := ho1.upd hu3 (by simp)
        have U3 : Upd [] (ablk A1) w w2 := (hu.trans (hu2.up _)).trans (hu3.up _)
        clear ho1 ho2 hu2 hu3 hu
        repeat' ((fail_if_success (with_reducible refine stop_append rfl ?_)); (fail_if_success (with_reducible refine stop_copy rfl ?_)); first | go_values | go_skip | go_guarded | go_step | go_upon | (simp only []; go_at_K))
        refine wpList_appB rfl _ _ 22 rfl 5 Try.underlying22 infoU8 ho1' rfl ho3.rd rfl (by omega) ?_
        intro A4 k4 c4 w4 ho4 hu4
        have U4 := U3.trans hu4
        rw [← HS.out] at ho4
        clear ho1' ho3 hu4
        repeat' ((fail_if_success (with_reducible refine stop_append rfl ?_)); (fail_if_success (with_reducible refine stop_copy rfl ?_)); first | go_values | go_skip | go_guarded | go_step | go_upon | (simp only []; go_at_K))
        exact ⟨⟨i + 1, A4, k4, c4, by omega, by simp, rfl, HM.out, ho4, U4⟩, by simp [intOf]; omega⟩
      · have HN : Hid (¬ ∀ x ∈ l, x.rc.May) := Lib.hid fun h => hxm (h _ (List.getElem_mem hlt))
        generalize l[i] = x at *
        have hxv := x.val_eq
        have C := alogEncode_no x (wr.alloc (.cells #[.int .i64 x.k, .int .i64 x.s, .int .i64 x.r, .int .i64 x.t, .slice x.A x.n x.c] 77)) (hxr.alloc _) hxm
        rw [hxv] at C
        clear hxv hr hmt hxm
        repeat' ((fail_if_success (with_reducible refine stop_append rfl ?_)); (fail_if_success (with_reducible refine stop_copy rfl ?_)); first | go_values | go_skip | go_guarded | go_step | go_upon | (simp only []; go_at_K))
        ((with_reducible refine C.mono ?_); rintro e w1 ⟨rfl, hu2⟩)
        have U2 : Upd [] [] w w1 := (hu.trans ((((Upd.refl [] wr).alloc _).trans hu2).up _)).gives (by simp)
        clear q0 q1 q2 q3 q4 C ho hu hu2
        repeat' ((fail_if_success (with_reducible refine stop_append rfl ?_)); (fail_if_success (with_reducible refine stop_copy rfl ?_)); first | go_values | go_skip | go_guarded | go_step | go_upon | (simp only []; go_at_K))
        go_ret2
        exact .inr ⟨HN.out, rfl, U2⟩
    · obtain rfl : i = l.length := by omega
      rw [List.take_length] at ho hmt
      have HM := Lib.hid hmt
      clear hmt
      repeat' ((fail_if_success (with_reducible refine stop_append rfl ?_)); (fail_if_success (with_reducible refine stop_copy rfl ?_)); first | go_values | go_skip | go_guarded | go_step | go_upon | (simp only []; go_at_K))
      go_ret2
      exact .inl ⟨HM.out, A1, k1, c1, rfl, ho, hu⟩

set_option maxRecDepth 100000 in
set_option maxHeartbeats 2000000 in
theorem ref07Lay (w : World) (A : Option Addr) (n c : Nat) (l : List Rv) (hr : Rvs w A n l) (hn : l.length ≤ 1000) :
    Calls Try.prog 29 #[.slice A n c] w (LayT l w) := by
  obtain rfl := hr.len
  go_enter Try.func29, Try.ntmps29
  repeat' ((fail_if_success (with_reducible refine stop_append rfl ?_)); (fail_if_success (with_reducible refine stop_copy rfl ?_)); first | go_values | go_skip | go_guarded | go_step | go_upon | (simp only []; go_at_K))
  go_loopw [4, 5] (fun v4 v5 wr => ∃ (i : Nat) (A1 : Option Addr) (k1 c1 : Nat), i ≤ l.length ∧ v5 = .int .i64 (i : Int) ∧ v4 = .slice A1 k1 c1 ∧ (∀ x ∈ l.take i, x.rc.May) ∧ OwnB 5 wr A1 k1 c1 (layB (rcs (l.take i))) ∧ Upd [] (ablk A1) w wr)
    (fun _ v5 _ => l.length - (intOf v5).toNat)
  case atStart => exact ⟨0, none, 0, 0, by omega, rfl, rfl, by simp, OwnB.nil _ _, Upd.refl _ _⟩
  case round =>
    obtain ⟨i, A1, k1, c1, hi, rfl, rfl, hmt, ho, hu⟩ := hrel
    by_cases hlt : i < l.length
    · have hrr := hr.upd hu
      obtain ⟨ad, rfl, q0, q1, q2, q3, q4⟩ := hrr.at_ hlt
      have hxr := hrr.each l[i] (List.getElem_mem hlt)
      have HS := Lib.hid (rcs_take hlt)
      have hbl := layB_lenR hmt
      rw [List.length_take] at hbl
      by_cases hxm : l[i].rc.May
      · have hmn : ∀ x ∈ l.take (i + 1), x.rc.May := fun x hx => by
          rw [List.take_succ_eq_append_getElem hlt] at hx
          rcases List.mem_append.1 hx with hx | hx
          · exact hmt x hx
          · rw [List.mem_singleton.1 hx]; exact hxm
        have HM := Lib.hid hmn
        have hxl := hxm.len
        clear hmn hmt
        generalize l[i] = x at *
        have hxv := x.val_eq
        have hpl := put_len x.rc.bytes
        have C := ref07Encode x wr hxr hxm
        rw [hxv] at C
        clear hxv hr
        repeat' ((fail_if_success (with_reducible refine stop_append rfl ?_)); (fail_if_success (with_reducible refine stop_copy rfl ?_)); first | go_values | go_skip | go_guarded | go_step | go_upon | (simp only []; go_at_K))
        ((with_reducible refine C.mono ?_); rintro e w1 ⟨A2, k2, c2, rfl, ho2, hu2⟩)
        have ho1 := ho.upd hu2 (by simp)
        clear q0 q1 q2 q3 q4 C ho
        repeat' ((fail_if_success (with_reducible refine stop_append rfl ?_)); (fail_if_success (with_reducible refine stop_copy rfl ?_)); first | go_values | go_skip | go_guarded | go_step | go_upon | (simp only []; go_at_K))
        ((with_reducible refine (refPut_ok w1 A2 k2 c2 _ ho2.rd (by omega)).mono ?_); rintro e w2 ⟨A3, k3, c3, rfl, ho3, hu3⟩)
        have ho1' := ho1.upd hu3 (by simp)
        have U3 : Upd [] (ablk A1) w w2 := (hu.trans (hu2.up _)).trans (hu3.up _)
        clear ho1 ho2 hu2 hu3 hu
        repeat' ((fail_if_success (with_reducible refine stop_append rfl ?_)); (fail_if_success (with_reducible refine stop_copy rfl ?_)); first | go_values | go_skip | go_guarded | go_step | go_upon | (simp only []; go_at_K))
        refine wpList_appB rfl _ _ 22 rfl 5 Try.underlying22 infoU8 ho1' rfl ho3.rd rfl (by omega) ?_
        intro A4 k4 c4 w4 ho4 hu4
        have U4 := U3.trans hu4
        rw [← HS.out] at ho4
        clear ho1' ho3 hu4
        repeat' ((fail_if_success (with_reducible refine stop_append rfl ?_)); (fail_if_success (with_reducible refine stop_copy rfl ?_)); first | go_values | go_skip | go_guarded | go_step | go_upon | (simp only []; go_at_K))
        exact ⟨⟨i + 1, A4, k4, c4, by omega, by simp, rfl, HM.out, ho4, U4⟩, by simp [intOf]; omega⟩
      · have HN : Hid (¬ ∀ x ∈ l, x.rc.May) := Lib.hid fun h => hxm (h _ (List.getElem_mem hlt))
        generalize l[i] = x at *
        have hxv := x.val_eq
        have C := ref07Encode_no x wr hxr hxm
        rw [hxv] at C
        clear hxv hr hmt hxm
        repeat' ((fail_if_success (with_reducible refine stop_append rfl ?_)); (fail_if_success (with_reducible refine stop_copy rfl ?_)); first | go_values | go_skip | go_guarded | go_step | go_upon | (simp only []; go_at_K))
        ((with_reducible refine C.mono ?_); rintro e w1 ⟨rfl, hu2⟩)
        have U2 : Upd [] [] w w1 := (hu.trans (hu2.up _)).gives (by simp)
        clear q0 q1 q2 q3 q4 C ho hu hu2
        repeat' ((fail_if_success (with_reducible refine stop_append rfl ?_)); (fail_if_success (with_reducible refine stop_copy rfl ?_)); first | go_values | go_skip | go_guarded | go_step | go_upon | (simp only []; go_at_K))
        go_ret2
        exact .inr ⟨HN.out, rfl, U2⟩
    · obtain rfl : i = l.length := by omega
      rw [List.take_length] at ho hmt
      have HM := Lib.hid hmt
      clear hmt
      repeat' ((fail_if_success (with_reducible refine stop_append rfl ?_)); (fail_if_success (with_reducible refine stop_copy rfl ?_)); first | go_values | go_skip | go_guarded | go_step | go_upon | (simp only []; go_at_K))
      go_ret2
      exact .inl ⟨HM.out, A1, k1, c1, rfl, ho, hu⟩

set_option maxRecDepth 100000 in
set_option maxHeartbeats 2000000 in
theorem ref07Last (w : World) (A : Option Addr) (n c : Nat) (l : List Rv) (hr : Rvs w A n l) (hl : l.length ≤ 1000000) (k s : Int) :
    Calls Try.prog 34 #[.slice A n c, .int .i64 k, .int .i64 s] w fun e w' =>
      (∃ x : Rv, x.rc = ((lastR k s l).getD rvZ).rc ∧ RdB w' x.A x.n x.b ∧ e = .returned (.tuple #[x.val, .bool (lastR k s l).isSome])) ∧ Upd [] [] w w' := by
  have hn := hr.len
  subst hn
  have hB0 := Blk.new w 80 #[.int .i64 0, .int .i64 0, .int .i64 0, .int .i64 0, .slice none 0 0]
  have U0 : Upd [] [] w (w.alloc (.cells #[.int .i64 0, .int .i64 0, .int .i64 0, .int .i64 0, .slice none 0 0] 80)) := (Upd.refl _ _).alloc _
  obtain ⟨b6, hb6⟩ : ∃ b, w.heap.size = b := ⟨_, rfl⟩
  have hlt6 : w.heap.size ≤ b6 := by omega
  obtain ⟨W, eW⟩ : ∃ V, w.alloc (.cells #[.int .i64 0, .int .i64 0, .int .i64 0, .int .i64 0, .slice none 0 0] 80) = V := ⟨_, rfl⟩
  rw [eW] at hB0 U0
  rw [hb6] at hB0
  have hw0 : IntKind.i64.wrap ((l.length : Int) - 1) = (l.length : Int) - 1 := by rw [IntKind.wrap_i64]; omega
  go_enter Try.func34, Try.ntmps34
  repeat' ((fail_if_success (with_reducible refine stop_append rfl ?_)); (fail_if_success (with_reducible refine stop_copy rfl ?_)); first | go_values | go_skip | go_guarded | go_step | go_upon | (simp only []; go_at_K))
  go_loopw [8] (fun v8 wr => ∃ m : Nat, m ≤ l.length ∧ v8 = .int .i64 ((m : Int) - 1) ∧ (∀ j (hj : j < l.length), m ≤ j → ¬ (l[j].k = k ∧ l[j].s = s)) ∧ wr = W) (fun v8 _ => (intOf v8 + 1).toNat)
  case atStart => exact ⟨l.length, by omega, rfl, fun j hj hlj => by omega, rfl⟩
  case round =>
    clear hw0
    obtain ⟨m, hm, rfl, hne, rfl⟩ := hrel
    obtain ⟨⟨p0, p1, p2, p3, p4⟩, f0, f1, f2, f3, f4⟩ := hB0.c5
    cases m with
    | zero =>
      have hng : decide ((0 : Int) ≤ ((0 : Nat) : Int) - 1) = false := decide_eq_false (by omega)
      have hid : lastR k s l = none := lastR_none fun j hj => hne j hj (by omega)
      have HI := Lib.hid hid
      have N5 := rowSet [.int .i64 0, .int .i64 0, .int .i64 0, .int .i64 0, .slice none 0 0] hB0 rfl U0 (.inr hlt6)
      obtain ⟨W5, e5⟩ : ∃ V, setRow wr b6 0 [.int .i64 0, .int .i64 0, .int .i64 0, .int .i64 0, .slice none 0 0] = V := ⟨_, rfl⟩
      rw [e5] at N5
      simp only [setRow] at e5
      clear hid hne hr hB0 eW hb6
      repeat' ((fail_if_success (with_reducible refine stop_append rfl ?_)); (fail_if_success (with_reducible refine stop_copy rfl ?_)); first | go_values | go_skip | go_guarded | go_step | go_upon | (simp only []; go_at_K))
      obtain ⟨⟨q0, q1, q2, q3, q4⟩, -⟩ := N5.1.c5
      refine bodyPost_ret (v := .tuple #[.agg #[.int .i64 0, .int .i64 0, .int .i64 0, .int .i64 0, .slice none 0 0], .bool false]) ?_ rfl ⟨⟨rvZ, by rw [HI.out]; rfl, Rd.none_, by rw [HI.out]; rfl⟩, N5.2⟩
      simp [results, Try.results34, go_sem, q0, q1, q2, q3, q4]
    | succ m =>
      have hg : decide ((0 : Int) ≤ ((m + 1 : Nat) : Int) - 1) = true := decide_eq_true (by omega)
      have hm1 : ((m + 1 : Nat) : Int) - 1 = (m : Int) := by omega
      rw [hm1] at hg ⊢
      have hml : m < l.length := by omega
      have hmi : (m : Int) < (l.length : Int) := by omega
      have hw1 : IntKind.i64.wrap ((m : Int) - 1) = (m : Int) - 1 := by rw [IntKind.wrap_i64]; omega
      have hrW := hr.upd U0
      obtain ⟨ad, hA, a0, a1, a2, a3, a4⟩ := hrW.at_ hml
      subst hA
      have hx := hr.each _ (List.getElem_mem hml)
      by_cases e : l[m].k = k ∧ l[m].s = s
      · have hid : lastR k s l = some l[m] := lastR_at hml e (fun j hj hmj => hne j hj (by omega))
        obtain ⟨e1, e2⟩ := e
        have hb1 : (l[m].k == k) = true := by rw [e1]; exact beq_self_eq_true _
        have hb2 : (l[m].s == s) = true := by rw [e2]; exact beq_self_eq_true _
        generalize l[m] = x at *
        have HI := Lib.hid hid
        have N5 := rowSet [.int .i64 x.k, .int .i64 x.s, .int .i64 x.r, .int .i64 x.t, .slice x.A x.n x.c] hB0 rfl U0 (.inr hlt6)
        obtain ⟨W5, e5⟩ : ∃ V, setRow wr b6 0 [.int .i64 x.k, .int .i64 x.s, .int .i64 x.r, .int .i64 x.t, .slice x.A x.n x.c] = V := ⟨_, rfl⟩
        rw [e5] at N5
        simp only [setRow] at e5
        have hx5 := hx.upd N5.2 (by simp)
        clear hid hne hB0 eW hb6 e1 e2 hrW hr
        repeat' ((fail_if_success (with_reducible refine stop_append rfl ?_)); (fail_if_success (with_reducible refine stop_copy rfl ?_)); first | go_values | go_skip | go_guarded | go_step | go_upon | (simp only []; go_at_K))
        obtain ⟨⟨q0, q1, q2, q3, q4⟩, -⟩ := N5.1.c5
        refine bodyPost_ret (v := .tuple #[.agg #[.int .i64 x.k, .int .i64 x.s, .int .i64 x.r, .int .i64 x.t, .slice x.A x.n x.c], .bool true]) ?_ rfl ⟨⟨x, by rw [HI.out]; rfl, hx5, by rw [HI.out]; rfl⟩, N5.2⟩
        simp [results, Try.results34, go_sem, q0, q1, q2, q3, q4]
      · have hne' : ∀ j (hj : j < l.length), m ≤ j → ¬ (l[j].k = k ∧ l[j].s = s) := fun j hj hmj => by
          by_cases ej : j = m
          · subst ej; exact e
          · exact hne j hj (by omega)
        have e' : l[m].k = k → l[m].s = s → False := fun h1 h2 => e ⟨h1, h2⟩
        clear hne e hrW hx
        generalize l[m] = x at *
        by_cases e1 : x.k = k
        · have hb1 : (x.k == k) = true := by simpa using e1
          have hb2 : (x.s == s) = false := beq_false_of_ne (e' e1)
          clear e' e1
          repeat' ((fail_if_success (with_reducible refine stop_append rfl ?_)); (fail_if_success (with_reducible refine stop_copy rfl ?_)); first | go_values | go_skip | go_guarded | go_step | go_upon | (simp only []; go_at_K))
          exact ⟨⟨m, by omega, rfl, hne', trivial⟩, by simp [intOf]⟩
        · have hb1 : (x.k == k) = false := beq_false_of_ne e1
          clear e' e1
          repeat' ((fail_if_success (with_reducible refine stop_append rfl ?_)); (fail_if_success (with_reducible refine stop_copy rfl ?_)); first | go_values | go_skip | go_guarded | go_step | go_upon | (simp only []; go_at_K))
          exact ⟨⟨m, by omega, rfl, hne', trivial⟩, by simp [intOf]⟩

theorem insU_split {x : Int} {X Y : List Int} (hX : ∀ y ∈ X, y < x) (hY : ∀ y ∈ Y, x < y) : insU x (X ++ Y) = X ++ x :: Y := by
  induction X with
  | nil =>
    cases Y with
    | nil => rfl
    | cons y r => simp [insU, hY y (by simp)]
  | cons y r ih =>
    have h1 := hX y (by simp)
    have := ih fun z hz => hX z (List.mem_cons_of_mem _ hz)
    rw [List.cons_append, insU, if_neg (by omega), if_neg (by omega), this]; rfl
theorem insU_there {x : Int} {X Y : List Int} (hX : ∀ y ∈ X, y < x) : insU x (X ++ x :: Y) = X ++ x :: Y := by
  induction X with
  | nil => simp [insU]
  | cons y r ih =>
    have h1 := hX y (by simp)
    have := ih fun z hz => hX z (List.mem_cons_of_mem _ hz)
    rw [List.cons_append, insU, if_neg (by omega), if_neg (by omega), this]
theorem slotsL_up (l : List Rv) : Agio.Up (slotsL l) := by
  have key : ∀ (l : List Rv) (u : List Int), Agio.Up u → Agio.Up (l.foldl (fun u x => insU x.s u) u) := by
    intro l
    induction l with
    | nil => intro u h; exact h
    | cons x r ih => intro u h; exact ih _ (insU_up h)
  exact key l [] List.Pairwise.nil
theorem infoInt : (Try.prog.info? 3).map (fun i => (i.zero, i.size, i.bytes)) = some (some (.int .i64 0), 1, 8) := by kernel_rfl
theorem ints_one (l : List Int) : ∀ u ∈ l.map (Value.int .i64), u.oneCell' = true := fun u hu => by obtain ⟨_, _, rfl⟩ := List.mem_map.1 hu; rfl

set_option maxRecDepth 100000 in
set_option maxHeartbeats 4000000 in
theorem ref07Slots (w : World) (A : Option Addr) (n c : Nat) (l : List Rv) (hr : Rvs w A n l) (hl : l.length ≤ 1000) :
    Calls Try.prog 38 #[.slice A n c] w (Slots07 l w) := by
  have hn := hr.len
  subst hn
  go_enter Try.func38, Try.ntmps38
  repeat' ((fail_if_success (with_reducible refine stop_append rfl ?_)); (fail_if_success (with_reducible refine stop_copy rfl ?_)); first | go_values | go_skip | go_guarded | go_step | go_upon | (simp only []; go_at_K))
  go_loopw [3, 4] (fun v3 v4 wr => ∃ (i : Nat) (A1 : Option Addr) (k1 c1 : Nat), i ≤ l.length ∧ v4 = .int .i64 (i : Int) ∧ v3 = .slice A1 k1 c1 ∧ k1 = (slotsL (l.take i)).length ∧ Agio.Own 3 1 wr A1 k1 c1 ((slotsL (l.take i)).map (Value.int .i64)) ∧ Upd [] (ablk A1) w wr)
    (fun _ v4 _ => l.length - (intOf v4).toNat)
  case atStart => exact ⟨0, none, 0, 0, by omega, rfl, rfl, rfl, Agio.Own.nil _ _ _, (Upd.refl [] w).gives (by simp [ablk])⟩
  case round =>
    obtain ⟨i, A1, k1, c1, hi, rfl, rfl, hk, ho, U⟩ := hrel
    by_cases hlt : i < l.length
    · have hil : (i : Int) < (l.length : Int) := by omega
      have hw1 : IntKind.i64.wrap ((i : Int) + 1) = (i : Int) + 1 := by rw [IntKind.wrap_i64]; omega
      have hrr := hr.upd U
      have hst := slotsL_take hlt
      have hup := slotsL_up (l.take i)
      have hkl : k1 ≤ 1000 := by
        have := slotsL_len (l.take i)
        rw [List.length_take] at this
        omega
      obtain ⟨ad, hA, -, a1, -⟩ := hrr.at_ hlt
      subst hA
      clear hrr
      generalize l[i].s = s at *
      obtain ⟨u, hu⟩ : ∃ u, slotsL (l.take i) = u := ⟨_, rfl⟩
      rw [hu] at hk ho hup hst
      have HST := Lib.hid hst
      have HK := Lib.hid hk
      clear hst hk hu
      repeat' ((fail_if_success (with_reducible refine stop_append rfl ?_)); (fail_if_success (with_reducible refine stop_copy rfl ?_)); first | go_values | go_skip | go_guarded | go_step | go_upon | (simp only []; go_at_K))
      go_loopw [5] (fun v5 wr' => ∃ a : Nat, a ≤ k1 ∧ v5 = .int .i64 (a : Int) ∧ (∀ j (hj : j < u.length), j < a → u[j] < s) ∧ Upd [] [] wr wr') (fun v5 _ => k1 - (intOf v5).toNat)
      case atStart => exact ⟨0, by omega, rfl, fun j hj h => by omega, Upd.refl _ _⟩
      case round =>
        obtain ⟨a, ha, rfl, hb, V⟩ := hrel
        have hoV := ho.upd V (by simp)
        have a1V := V.cell a1 (by simp)
        have UV := U.trans (V.up _)
        have hai : (a : Int) ≤ (k1 : Int) := by omega
        by_cases hlt1 : a < k1
        · have hak : decide ((a : Int) < (k1 : Int)) = true := decide_eq_true (by omega)
          have hak2 : decide (a < k1) = true := decide_eq_true hlt1
          have hak3 : (a : Int) < (k1 : Int) := by omega
          obtain ⟨ad2, hA2, hua, hc2⟩ : ∃ ad2, A1 = some ad2 ∧ ∃ h : a < u.length, wr.cell? (ad2.add a) = some (.int .i64 u[a]) := by
            obtain ⟨ad2, v, e, hv, hc⟩ := hoV.rd.at_ (k := a) hlt1
            have hau : a < u.length := by rw [← HK.out]; exact hlt1
            rw [List.getElem?_map, List.getElem?_eq_getElem hau, Option.map_some, Option.some.injEq] at hv
            subst hv
            exact ⟨ad2, e, hau, hc⟩
          subst hA2
          have c1' := fun N => ((Upd.refl [] wr).drewN N).cell hc2 (by simp)
          have c2' := fun N => ((Upd.refl [] wr).drewN N).cell a1V (by simp)
          have hw2 : IntKind.i64.wrap ((a : Int) + 1) = (a : Int) + 1 := by rw [IntKind.wrap_i64]; omega
          by_cases hls : u[a] < s
          · have hb' : ∀ j (hj : j < u.length), j < a + 1 → u[j] < s := fun j hj hja => by
              by_cases e : j = a
              · subst e; exact hls
              · exact hb j hj (by omega)
            have hd : decide (u[a] < s) = true := decide_eq_true hls
            clear hb hls hc2 a1V hoV
            generalize u[a] = y at *
            repeat' ((fail_if_success (with_reducible refine stop_append rfl ?_)); (fail_if_success (with_reducible refine stop_copy rfl ?_)); first | go_values | go_skip | go_guarded | go_step | go_upon | (simp only []; go_at_K))
            go_quiet (fail)
            repeat' ((fail_if_success (with_reducible refine stop_append rfl ?_)); (fail_if_success (with_reducible refine stop_copy rfl ?_)); first | go_values | go_skip | go_guarded | go_step | go_upon | (simp only []; go_at_K))
            exact ⟨⟨a + 1, by omega, by simp, hb', V.drewN _⟩, by simp [intOf]; omega⟩
          · have hd : decide (u[a] < s) = false := decide_eq_false hls
            by_cases hes : u[a] = s
            · have hUe : slotsL (l.take (i + 1)) = u := by
                rw [HST.out]
                have hu3 : u = u.take a ++ s :: u.drop (a + 1) := by
                  conv => lhs; rw [← List.take_append_drop a u]
                  rw [List.drop_eq_getElem_cons hua, hes]
                rw [hu3]
                refine insU_there fun y hy => ?_
                obtain ⟨j, hj, rfl⟩ := List.mem_iff_getElem.1 hy
                rw [List.length_take] at hj
                rw [List.getElem_take]
                exact hb j (by omega) (by omega)
              have HU := Lib.hid hUe
              have heb : (u[a] == s) = true := by rw [hes]; exact beq_self_eq_true _
              clear hb hls hes hUe hc2 a1V
              generalize u[a] = y at *
              repeat' ((fail_if_success (with_reducible refine stop_append rfl ?_)); (fail_if_success (with_reducible refine stop_copy rfl ?_)); first | go_values | go_skip | go_guarded | go_step | go_upon | (simp only []; go_at_K))
              go_quiet (fail)
              have q1 := c1' nq
              have q2 := c2' nq
              have hoq := hoV.drewN nq
              have Uq := UV.drewN nq
              clear c1' c2' hoV UV V
              generalize wr.drewN nq = W1 at *
              have c1' := fun N => ((Upd.refl [] W1).drewN N).cell q1 (by simp)
              have c2' := fun N => ((Upd.refl [] W1).drewN N).cell q2 (by simp)
              repeat' ((fail_if_success (with_reducible refine stop_append rfl ?_)); (fail_if_success (with_reducible refine stop_copy rfl ?_)); first | go_values | go_skip | go_guarded | go_step | go_upon | (simp only []; go_at_K))
              go_quiet (fail)
              have hoz := hoq.drewN nq
              have Uz := Uq.drewN nq
              have hkz := HK.out
              rw [← HU.out] at hkz hoz
              have HKz := Lib.hid hkz
              clear hkz hoq Uq c1' c2' q1 q2
              repeat' ((fail_if_success (with_reducible refine stop_append rfl ?_)); (fail_if_success (with_reducible refine stop_copy rfl ?_)); first | go_values | go_skip | go_guarded | go_step | go_upon | (simp only []; go_at_K))
              exact ⟨⟨i + 1, _, k1, c1, by omega, by simp, rfl, HKz.out, hoz, Uz⟩, by simp [intOf]; omega⟩
            · have heb : (u[a] == s) = false := beq_false_of_ne hes
              have HG : ∀ y ∈ u.drop a, s < y := fun y hy => by
                obtain ⟨j, hj, rfl⟩ := List.mem_iff_getElem.1 hy
                rw [List.length_drop] at hj
                rw [List.getElem_drop]
                by_cases e : j = 0
                · subst e; simp only [Nat.add_zero]; omega
                · have := List.pairwise_iff_getElem.1 hup a (a + j) hua (by omega) (by omega)
                  omega
              have hUe : slotsL (l.take (i + 1)) = u.take a ++ s :: u.drop a := by
                rw [HST.out]
                conv => lhs; rw [← List.take_append_drop a u]
                refine insU_split (fun y hy => ?_) (fun y hy => HG y hy)
                obtain ⟨j, hj, rfl⟩ := List.mem_iff_getElem.1 hy
                rw [List.length_take] at hj
                rw [List.getElem_take]
                exact hb j (by omega) (by omega)
              have HU := Lib.hid hUe
              have hcap := hoV.cap.1
              have hone := ints_one u
              have hac : (a : Int) ≤ (c1 : Int) := by omega
              have haz : (0 : Int) ≤ (a : Int) := by omega
              have hkc : (k1 : Int) ≤ (c1 : Int) := by omega
              have VU := UV
              clear hUe hb HG
              clear hls hes hc2 a1V
              generalize u[a] = y at *
              repeat' ((fail_if_success (with_reducible refine stop_append rfl ?_)); (fail_if_success (with_reducible refine stop_copy rfl ?_)); first | go_values | go_skip | go_guarded | go_step | go_upon | (simp only []; go_at_K))
              go_quiet (fail)
              have q1 := c1' nq
              have q2 := c2' nq
              have hoq := hoV.drewN nq
              have Uq := UV.drewN nq
              clear c1' c2' hoV UV V
              generalize wr.drewN nq = W1 at *
              have c1' := fun N => ((Upd.refl [] W1).drewN N).cell q1 (by simp)
              have c2' := fun N => ((Upd.refl [] W1).drewN N).cell q2 (by simp)
              repeat' ((fail_if_success (with_reducible refine stop_append rfl ?_)); (fail_if_success (with_reducible refine stop_copy rfl ?_)); first | go_values | go_skip | go_guarded | go_step | go_upon | (simp only []; go_at_K))
              go_quiet (fail)
              have hkl2 : u.length ≤ 1000 := by rw [← HK.out]; exact hkl
              have hoz := hoq.drewN nq
              have Uz := Uq.drewN nq
              have qz := ((Upd.refl [] W1).drewN nq).cell q2 (by simp)
              have hul := HK.out
              clear hoq Uq q2 c1' c2' q1
              generalize W1.drewN nq = W2 at *
              have hul2 := Lib.hid hul
              clear hul
              repeat' ((fail_if_success (with_reducible refine stop_append rfl ?_)); (fail_if_success (with_reducible refine stop_copy rfl ?_)); first | go_values | go_skip | go_guarded | go_step | go_upon | (simp only []; go_at_K))
              have hr0 := (hoz.rd.take (k := a) (by omega)).alloc (.cells #[] 3)
              rw [Nat.mul_one] at hr0
              have U1 : Upd [] (ablk (some ⟨W2.heap.size, 0, none⟩)) W2 (W2.alloc (.cells #[] 3)) := ((Upd.refl [] W2).alloc _).gives (by intro k hk; simp [ablk] at hk; subst hk; exact .inr (Nat.le_refl _))
              refine wpList_app _ rfl _ _ 85 rfl 3 Try.underlying85 infoInt rfl (by decide) (Own.made 3 1 W2) rfl hr0 rfl (fun u hu => hone u (List.mem_of_mem_take hu)) (by unfold maxLen; omega) (by omega) ?_
              intro A6 c6 w6 ho6 hu6
              have U6 := U1.trans hu6
              have hr7 := Rd.cut (hoz.rd.upd U6 (by simp)) (k := a) (cap := c1) (by omega) hcap
              have q6 := U6.cell qz (by simp)
              have hzl := hoz.lt
              rw [Nat.zero_add] at ho6
              clear hr0 U1 hu6 qz hoz
              repeat' ((fail_if_success (with_reducible refine stop_append rfl ?_)); (fail_if_success (with_reducible refine stop_copy rfl ?_)); first | go_values | go_skip | go_guarded | go_step | go_upon | (simp only []; go_at_K))
              refine wpList_push rfl _ _ 85 rfl 3 Try.underlying85 infoInt rfl (by decide) ho6 rfl _ rfl (news := [.int .i64 s]) rfl rfl rfl (by unfold maxLen; omega) (by omega) ?_
              intro A7 c7 w7 ho7 hu7
              have U7 := U6.trans hu7
              have hr8 := hr7.upd hu7 (fun k hk hm => by
                rw [ablk_if] at hk
                rcases U6.fresh k hm with h1 | h1
                · cases h1
                · have := hzl k hk; omega)
              rw [if_neg (by omega), Option.map_some, Nat.mul_one] at hr8
              clear hr7 hu7 q6 ho6 U6 hzl
              repeat' ((fail_if_success (with_reducible refine stop_append rfl ?_)); (fail_if_success (with_reducible refine stop_copy rfl ?_)); first | go_values | go_skip | go_guarded | go_step | go_upon | (simp only []; go_at_K))
              refine wpList_app _ rfl _ _ 85 rfl 3 Try.underlying85 infoInt rfl (by decide) ho7 rfl hr8 rfl (fun u hu => hone u (List.mem_of_mem_drop hu)) (by unfold maxLen; omega) (by omega) ?_
              intro A8 c8 w8 ho8 hu8
              have U8 := U7.trans hu8
              have hz : ((u.map (Value.int .i64)).take a ++ [Value.int .i64 s]) ++ (u.map (Value.int .i64)).drop a = (slotsL (l.take (i + 1))).map (Value.int .i64) := by
                rw [HU.out]; simp
              have hk8 : a + 1 + (k1 - a) = (slotsL (l.take (i + 1))).length := by
                have := hul2.out
                rw [HU.out, List.length_append, List.length_cons, List.length_take, List.length_drop]; omega
              rw [List.nil_append, hz] at ho8
              have HK8 := Lib.hid hk8
              have UF := Uz.gives (b' := []) (by simp)
              clear hr8 hu8 ho7 U7 hz hk8 hone
              repeat' ((fail_if_success (with_reducible refine stop_append rfl ?_)); (fail_if_success (with_reducible refine stop_copy rfl ?_)); first | go_values | go_skip | go_guarded | go_step | go_upon | (simp only []; go_at_K))
              exact ⟨⟨i + 1, A8, _, c8, by omega, by simp, rfl, HK8.out, ho8, UF.trans U8⟩, by simp [intOf]; omega⟩
        · obtain rfl : a = k1 := by omega
          have hak : decide ((a : Int) < (a : Int)) = false := decide_eq_false (by omega)
          have hak3 : ¬ ((a : Int) < (a : Int)) := by omega
          have HG : ∀ y ∈ u.drop a, s < y := fun y hy => by
            rw [List.drop_eq_nil_of_le (by rw [← HK.out]; exact Nat.le_refl _)] at hy
            cases hy
          have hUe : slotsL (l.take (i + 1)) = u.take a ++ s :: u.drop a := by
            rw [HST.out]
            conv => lhs; rw [← List.take_append_drop a u]
            refine insU_split (fun y hy => ?_) (fun y hy => HG y hy)
            obtain ⟨j, hj, rfl⟩ := List.mem_iff_getElem.1 hy
            rw [List.length_take] at hj
            rw [List.getElem_take]
            exact hb j (by omega) (by omega)
          have HU := Lib.hid hUe
          have hcap := hoV.cap.1
          have hone := ints_one u
          have hac : (a : Int) ≤ (c1 : Int) := by omega
          have haz : (0 : Int) ≤ (a : Int) := by omega
          have hkc : (a : Int) ≤ (c1 : Int) := by omega
          have VU := UV
          clear hUe hb HG
          repeat' ((fail_if_success (with_reducible refine stop_append rfl ?_)); (fail_if_success (with_reducible refine stop_copy rfl ?_)); first | go_values | go_skip | go_guarded | go_step | go_upon | (simp only []; go_at_K))
          go_quiet (fail)
          have q2 := a1V
          have hoq := hoV.drewN nq
          have Uq := UV.drewN nq
          have q2 := ((Upd.refl [] wr).drewN nq).cell a1V (by simp)
          clear a1V hoV UV V
          generalize wr.drewN nq = W1 at *
          repeat' ((fail_if_success (with_reducible refine stop_append rfl ?_)); (fail_if_success (with_reducible refine stop_copy rfl ?_)); first | go_values | go_skip | go_guarded | go_step | go_upon | (simp only []; go_at_K))
          go_quiet (fail)
          have hkl2 : u.length ≤ 1000 := by rw [← HK.out]; exact hkl
          have hoz := hoq.drewN nq
          have Uz := Uq.drewN nq
          have qz := ((Upd.refl [] W1).drewN nq).cell q2 (by simp)
          have hul := HK.out
          clear hoq Uq q2 
          generalize W1.drewN nq = W2 at *
          have hul2 := Lib.hid hul
          clear hul
          repeat' ((fail_if_success (with_reducible refine stop_append rfl ?_)); (fail_if_success (with_reducible refine stop_copy rfl ?_)); first | go_values | go_skip | go_guarded | go_step | go_upon | (simp only []; go_at_K))
          have hr0 := (hoz.rd.take (k := a) (by omega)).alloc (.cells #[] 3)
          rw [Nat.mul_one] at hr0
          have U1 : Upd [] (ablk (some ⟨W2.heap.size, 0, none⟩)) W2 (W2.alloc (.cells #[] 3)) := ((Upd.refl [] W2).alloc _).gives (by intro k hk; simp [ablk] at hk; subst hk; exact .inr (Nat.le_refl _))
          refine wpList_app _ rfl _ _ 85 rfl 3 Try.underlying85 infoInt rfl (by decide) (Own.made 3 1 W2) rfl hr0 rfl (fun u hu => hone u (List.mem_of_mem_take hu)) (by unfold maxLen; omega) (by omega) ?_
          intro A6 c6 w6 ho6 hu6
          have U6 := U1.trans hu6
          have hr7 := Rd.cut (hoz.rd.upd U6 (by simp)) (k := a) (cap := c1) (by omega) hcap
          have q6 := U6.cell qz (by simp)
          have hzl := hoz.lt
          rw [Nat.zero_add] at ho6
          clear hr0 U1 hu6 qz hoz
          repeat' ((fail_if_success (with_reducible refine stop_append rfl ?_)); (fail_if_success (with_reducible refine stop_copy rfl ?_)); first | go_values | go_skip | go_guarded | go_step | go_upon | (simp only []; go_at_K))
          refine wpList_push rfl _ _ 85 rfl 3 Try.underlying85 infoInt rfl (by decide) ho6 rfl _ rfl (news := [.int .i64 s]) rfl rfl rfl (by unfold maxLen; omega) (by omega) ?_
          intro A7 c7 w7 ho7 hu7
          have U7 := U6.trans hu7
          have hr8 := hr7.upd hu7 (fun k hk hm => by
            rw [ablk_if] at hk
            rcases U6.fresh k hm with h1 | h1
            · cases h1
            · have := hzl k hk; omega)
          simp only [Nat.mul_one, Nat.sub_self] at hr8
          clear hr7 hu7 q6 ho6 U6 hzl
          repeat' ((fail_if_success (with_reducible refine stop_append rfl ?_)); (fail_if_success (with_reducible refine stop_copy rfl ?_)); first | go_values | go_skip | go_guarded | go_step | go_upon | (simp only []; go_at_K))
          refine wpList_app _ rfl _ _ 85 rfl 3 Try.underlying85 infoInt rfl (by decide) ho7 rfl hr8 rfl (fun u hu => hone u (List.mem_of_mem_drop hu)) (by unfold maxLen; omega) (by omega) ?_
          intro A8 c8 w8 ho8 hu8
          have U8 := U7.trans hu8
          have hz : ((u.map (Value.int .i64)).take a ++ [Value.int .i64 s]) ++ (u.map (Value.int .i64)).drop a = (slotsL (l.take (i + 1))).map (Value.int .i64) := by
            rw [HU.out]; simp
          have hk8 : a + 1 + 0 = (slotsL (l.take (i + 1))).length := by
            have := hul2.out
            rw [HU.out, List.length_append, List.length_cons, List.length_take, List.length_drop]; omega
          rw [List.nil_append, hz] at ho8
          have HK8 := Lib.hid hk8
          have UF := Uz.gives (b' := []) (by simp)
          clear hr8 hu8 ho7 U7 hz hk8 hone
          repeat' ((fail_if_success (with_reducible refine stop_append rfl ?_)); (fail_if_success (with_reducible refine stop_copy rfl ?_)); first | go_values | go_skip | go_guarded | go_step | go_upon | (simp only []; go_at_K))
          exact ⟨⟨i + 1, A8, _, c8, by omega, by simp, rfl, HK8.out, ho8, UF.trans U8⟩, by simp [intOf]; omega⟩
    · obtain rfl : i = l.length := by omega
      have hil : ¬ ((l.length : Int) < (l.length : Int)) := by omega
      rw [List.take_length] at hk ho
      subst hk
      clear hr
      repeat' ((fail_if_success (with_reducible refine stop_append rfl ?_)); (fail_if_success (with_reducible refine stop_copy rfl ?_)); first | go_values | go_skip | go_guarded | go_step | go_upon | (simp only []; go_at_K))
      go_ret
      exact ⟨A1, c1, rfl, ho, U⟩

/-- What Lay comes to. -/
def LayC (l : List Rv) (code : Int) (bs : List UInt8) : Prop := ((∀ x ∈ l, x.rc.May) ∧ code = 0 ∧ bs = layB (rcs l)) ∨ ((¬ ∀ x ∈ l, x.rc.May) ∧ code = 1 ∧ bs = [])
theorem LayC.one {l : List Rv} {c1 c2 : Int} {b1 b2 : List UInt8} (h1 : LayC l c1 b1) (h2 : LayC l c2 b2) : c1 = c2 ∧ b1 = b2 := by
  rcases h1 with ⟨a, rfl, rfl⟩ | ⟨a, rfl, rfl⟩ <;> rcases h2 with ⟨b, rfl, rfl⟩ | ⟨b, rfl, rfl⟩
  · exact ⟨rfl, rfl⟩
  · exact absurd a b
  · exact absurd b a
  · exact ⟨rfl, rfl⟩
theorem LayT.form {l : List Rv} {w w' : World} {e : Ending} (h : LayT l w e w') : ∃ A k c code bs, e = .returned (.tuple #[.slice A k c, .int .i64 code]) ∧ RdB w' A k bs ∧ LayC l code bs ∧ Upd [] [] w w' := by
  rcases h with ⟨h1, A, k, c, rfl, ho, hu⟩ | ⟨h1, rfl, hu⟩
  · exact ⟨A, k, c, 0, _, rfl, ho.rd, .inl ⟨h1, rfl, rfl⟩, hu.gives (by simp)⟩
  · exact ⟨none, 0, 0, 1, [], rfl, RdB.nil _ _, .inr ⟨h1, rfl, rfl⟩, hu⟩

set_option maxRecDepth 100000 in
set_option maxHeartbeats 8000000 in
theorem alogReads_any (w : World) (A : Option Addr) (n c : Nat) (l : List Rv) (hr : Rvs w A n l) (hlm : ∀ x ∈ l, x.b.length ≤ 140737488355328 ∧ (Lit.int .i64 x.s).wf = true)
    (B : Option Addr) (m d : Nat) (b : List UInt8) (hB : RdB w B m b) (hmd : m ≤ d) (hdm : d ≤ maxLen) (hb : b.length ≤ 1048576) (k s : Int) :
    Calls Try.prog 5 #[.agg #[.slice A n c, .slice B m d, .int .i64 k, .int .i64 s]] w fun e w' => e = .returned (.bool true) ∧ Upd [] [] w w' := by
  have hn := hr.len
  subst hn
  have U0 : Upd [] [] w (w.alloc (.cells #[.slice A l.length c, .slice B m d, .int .i64 k, .int .i64 s] 63)) := (Upd.refl _ _).alloc _
  have hT0 := Blk.new w 63 #[.slice A l.length c, .slice B m d, .int .i64 k, .int .i64 s]
  obtain ⟨b1, hb1⟩ : ∃ b, w.heap.size = b := ⟨_, rfl⟩
  obtain ⟨W0, eW⟩ : ∃ W, w.alloc (.cells #[.slice A l.length c, .slice B m d, .int .i64 k, .int .i64 s] 63) = W := ⟨_, rfl⟩
  rw [eW] at U0 hT0
  rw [hb1] at hT0
  go_enter Try.func5, Try.ntmps5
  repeat' ((fail_if_success (with_reducible refine stop_append rfl ?_)); (fail_if_success (with_reducible refine stop_copy rfl ?_)); first | go_values | go_skip | go_guarded | go_step | go_upon | (simp only []; go_at_K))
  ((with_reducible refine (awake07 _).mono ?_); rintro e w1 ⟨rfl, hu1⟩)
  have U1 := U0.trans hu1
  have hT1 := hT0.upd hu1 (by simp)
  have hr1 := hr.upd U1
  have hB1 := hB.upd U1 (by simp)
  obtain ⟨⟨t0, t1, t2, t3⟩, -⟩ := hT1.c4
  clear U0 hT0 hr hB hu1 eW hb1 hT1
  by_cases h60 : 60 < l.length
  · have hg : (60 : Int) < (l.length : Int) := by omega
    clear hr1 hB1 hlm
    repeat' ((fail_if_success (with_reducible refine stop_append rfl ?_)); (fail_if_success (with_reducible refine stop_copy rfl ?_)); first | go_values | go_skip | go_guarded | go_step | go_upon | (simp only []; go_at_K))
    go_ret
    exact ⟨rfl, U1⟩
  · have hg : ¬ ((60 : Int) < (l.length : Int)) := by omega
    have h1000 : l.length ≤ 1000 := by omega
    repeat' ((fail_if_success (with_reducible refine stop_append rfl ?_)); (fail_if_success (with_reducible refine stop_copy rfl ?_)); first | go_values | go_skip | go_guarded | go_step | go_upon | (simp only []; go_at_K))
    ((with_reducible refine (alogLay_any w1 A l.length c l hr1 h1000).mono ?_); rintro e w2 hL2)
    obtain ⟨A2, k2, c2, code, bs, rfl, hx2, hC2, hu2⟩ := hL2.form
    have hr2 := hr1.upd hu2
    have hB2 := hB1.upd hu2 (by simp)
    have U2 := U1.trans hu2
    clear hL2 hr1 hB1 hu2 U1 t0 t1 t2 t3
    repeat' ((fail_if_success (with_reducible refine stop_append rfl ?_)); (fail_if_success (with_reducible refine stop_copy rfl ?_)); first | go_values | go_skip | go_guarded | go_step | go_upon | (simp only []; go_at_K))
    ((with_reducible refine (law07Real w2 A l.length c l hr2 (by omega)).mono ?_); rintro e w3 ⟨A3, c3, rfl, ho3, hu3⟩)
    have hu3' : Upd [] [] w2 w3 := hu3.gives (by simp)
    have hr3 := hr2.upd hu3'
    have hB3 := hB2.upd hu3' (by simp)
    have hx3 := hx2.upd hu3' (by simp)
    have hv3 : Rvs w3 A3 l.length l := ⟨⟨rfl, ho3.rd⟩, hr3.each⟩
    have U3 := U2.trans hu3'
    clear hr2 hB2 hx2 U2 hu3 hu3' ho3
    repeat' ((fail_if_success (with_reducible refine stop_append rfl ?_)); (fail_if_success (with_reducible refine stop_copy rfl ?_)); first | go_values | go_skip | go_guarded | go_step | go_upon | (simp only []; go_at_K))
    ((with_reducible refine (ref07Lay w3 A3 l.length c3 l hv3 h1000).mono ?_); rintro e w4 hL4)
    obtain ⟨A4, k4, c4, code4, bs4, rfl, hy4, hC4, hu4⟩ := hL4.form
    obtain ⟨rfl, rfl⟩ := hC2.one hC4
    have hr4 := hr3.upd hu4
    have hB4 := hB3.upd hu4 (by simp)
    have hx4 := hx3.upd hu4 (by simp)
    have U4 := U3.trans hu4
    clear hL4 hr3 hB3 hx3 hv3 U3 hu4 hC2 hC4
    repeat' ((fail_if_success (with_reducible refine stop_append rfl ?_)); (fail_if_success (with_reducible refine stop_copy rfl ?_)); first | go_values | go_skip | go_guarded | go_step | go_upon | (simp only []; go_at_K))
    ((with_reducible refine (alogRead_all w4 B m d b hB4 hmd hdm (by omega)).mono ?_); rintro e w5 ⟨A5, k5, c5, xs, rfl, hxs, hR5, hu5⟩)
    have hu5' : Upd [] [] w4 w5 := hu5.gives (by simp)
    have hr5 := hr4.upd hu5'
    have hB5 := hB4.upd hu5' (by simp)
    have hx5 := hx4.upd hu5' (by simp)
    have hy5 := hy4.upd hu5' (by simp)
    have hX5 := hR5.rvs
    have U5 := U4.trans hu5'
    have hxl : xs.length ≤ 1048576 := by
      have h1 := layB_ge (readB b).1
      have h2 := congrArg List.length (readB_ok b).2.1
      have h3 := congrArg List.length hxs
      rw [List.length_take] at h2
      simp only [rcs, List.length_map] at h3
      omega
    clear hr4 hB4 hx4 hy4 U4 hu5 hu5' hR5
    repeat' ((fail_if_success (with_reducible refine stop_append rfl ?_)); (fail_if_success (with_reducible refine stop_copy rfl ?_)); first | go_values | go_skip | go_guarded | go_step | go_upon | (simp only []; go_at_K))
    ((with_reducible refine (ref07Read w5 B m d b hB5 hmd hdm (by omega)).mono ?_); rintro e w6 ⟨A6, k6, c6, ys, rfl, hys, hY6, hu6⟩)
    have hr6 := hr5.upd hu6
    have hx6 := hx5.upd hu6 (by simp)
    have hy6 := hy5.upd hu6 (by simp)
    have hX6 := hX5.upd hu6
    have U6 := U5.trans hu6
    have hxy : rcs xs = rcs ys := hxs.trans hys.symm
    generalize (readB b).2 = rn at *
    clear hr5 hx5 hy5 hX5 U5 hu6 hB5 hxs hys
    repeat' ((fail_if_success (with_reducible refine stop_append rfl ?_)); (fail_if_success (with_reducible refine stop_copy rfl ?_)); first | go_values | go_skip | go_guarded | go_step | go_upon | (simp only []; go_at_K))
    ((with_reducible refine (alogLast w6 A l.length c l hr6 (by omega) (fun x hx => (hlm x hx).1) k s).mono ?_); rintro e w7 ⟨⟨x, hx, hxr, rfl⟩, hu7⟩)
    rw [Rv.val_eq]
    have UBx : Upd [] [] w7 (w7.alloc (.cells #[.int .i64 x.k, .int .i64 x.s, .int .i64 x.r, .int .i64 x.t, .slice x.A x.n x.c] 77)) := (Upd.refl _ _).alloc _
    have hNx := Blk.new w7 77 #[.int .i64 x.k, .int .i64 x.s, .int .i64 x.r, .int .i64 x.t, .slice x.A x.n x.c]
    obtain ⟨W8, eW8⟩ : ∃ V, w7.alloc (.cells #[.int .i64 x.k, .int .i64 x.s, .int .i64 x.r, .int .i64 x.t, .slice x.A x.n x.c] 77) = V := ⟨_, rfl⟩
    obtain ⟨b16, eb16⟩ : ∃ b, w7.heap.size = b := ⟨_, rfl⟩
    rw [eW8] at UBx hNx
    rw [eb16] at hNx
    have V8 := hu7.trans UBx
    have hr8 := hr6.upd V8
    have hx8 := hx6.upd V8 (by simp)
    have hy8 := hy6.upd V8 (by simp)
    have hX8 := hX6.upd V8
    have hY8 := hY6.upd V8
    have hp8 := hxr.upd UBx (by simp)
    have U8 := U6.trans V8
    have HXe := Lib.hid hx
    clear hr6 hx6 hy6 hX6 hY6 U6 hu7 V8 UBx hx hxr
    repeat' ((fail_if_success (with_reducible refine stop_append rfl ?_)); (fail_if_success (with_reducible refine stop_copy rfl ?_)); first | go_values | go_skip | go_guarded | go_step | go_upon | (simp only []; go_at_K))
    ((with_reducible refine (law07Real W8 A l.length c l hr8 (by omega)).mono ?_); rintro e w9 ⟨A9, c9, rfl, ho9, hu9⟩)
    have hu9' : Upd [] [] W8 w9 := hu9.gives (by simp)
    have hr9 := hr8.upd hu9'
    have hx9 := hx8.upd hu9' (by simp)
    have hy9 := hy8.upd hu9' (by simp)
    have hX9 := hX8.upd hu9'
    have hY9 := hY8.upd hu9'
    have hp9 := hp8.upd hu9' (by simp)
    have hN9 := hNx.upd hu9' (by simp)
    have hv9 : Rvs w9 A9 l.length l := ⟨⟨rfl, ho9.rd⟩, hr9.each⟩
    have U9 := U8.trans hu9'
    clear hr8 hx8 hy8 hX8 hY8 hp8 hNx U8 hu9 hu9' ho9 eW8 eb16
    repeat' ((fail_if_success (with_reducible refine stop_append rfl ?_)); (fail_if_success (with_reducible refine stop_copy rfl ?_)); first | go_values | go_skip | go_guarded | go_step | go_upon | (simp only []; go_at_K))
    ((with_reducible refine (ref07Last w9 A9 l.length c9 l hv9 (by omega) k s).mono ?_); rintro e w10 ⟨⟨y, hy, hyr, rfl⟩, hu10⟩)
    rw [Rv.val_eq]
    have UBy : Upd [] [] w10 (w10.alloc (.cells #[.int .i64 y.k, .int .i64 y.s, .int .i64 y.r, .int .i64 y.t, .slice y.A y.n y.c] 80)) := (Upd.refl _ _).alloc _
    have hNy := Blk.new w10 80 #[.int .i64 y.k, .int .i64 y.s, .int .i64 y.r, .int .i64 y.t, .slice y.A y.n y.c]
    obtain ⟨W11, eW11⟩ : ∃ V, w10.alloc (.cells #[.int .i64 y.k, .int .i64 y.s, .int .i64 y.r, .int .i64 y.t, .slice y.A y.n y.c] 80) = V := ⟨_, rfl⟩
    obtain ⟨b18, eb18⟩ : ∃ b, w10.heap.size = b := ⟨_, rfl⟩
    rw [eW11] at UBy hNy
    rw [eb18] at hNy
    have V11 := hu10.trans UBy
    have hr11 := hr9.upd V11
    have hx11 := hx9.upd V11 (by simp)
    have hy11 := hy9.upd V11 (by simp)
    have hX11 := hX9.upd V11
    have hY11 := hY9.upd V11
    have hp11 := hp9.upd V11 (by simp)
    have hq11 := hyr.upd UBy (by simp)
    have hN11 := hN9.upd V11 (by simp)
    have U11 := U9.trans V11
    have hpq : x.rc = y.rc := HXe.out.trans hy.symm
    have s1 := strOf hx11 c2
    have s2 := strOf hy11 c4
    have D1 := law07Same W11 A5 k5 c5 xs hX11 A6 k6 c6 ys hY11 hxy (by omega)
    have D2 := fun (V : World) (hv : Upd [] [] W11 V) => ref07One x y V (hp11.upd hv (by simp)) (hq11.upd hv (by simp)) hpq
    have n1 := bne_self_eq_false code
    have n2 := bne_self_eq_false (rn : Int)
    have n3 := bne_self_eq_false (lastR k s l).isSome
    generalize (lastR k s l).isSome = ff at *
    clear hr9 hx9 hy9 hX9 hY9 hp9 hN9 hv9 U9 hu10 V11 UBy hy hyr HXe hpq hxy hX11 hY11 hp11 hq11
    repeat' ((fail_if_success (with_reducible refine stop_append rfl ?_)); (fail_if_success (with_reducible refine stop_copy rfl ?_)); first | go_values | go_skip | go_guarded | go_step | go_upon | (simp only []; go_at_K))
    ((with_reducible refine D1.mono ?_); rintro e w12 ⟨rfl, hu12⟩)
    obtain ⟨⟨p0, p1, p2, p3, p4⟩, -⟩ := (hN11.upd hu12 (by simp)).c5
    obtain ⟨⟨q0, q1, q2, q3, q4⟩, -⟩ := (hNy.upd hu12 (by simp)).c5
    have hr12 := hr11.upd hu12
    have U12 := U11.trans hu12
    clear D1 s1 s2 n1 hx11 hy11 hN11 hNy hr11 U11 eW11 eb18
    repeat' ((fail_if_success (with_reducible refine stop_append rfl ?_)); (fail_if_success (with_reducible refine stop_copy rfl ?_)); first | go_values | go_skip | go_guarded | go_step | go_upon | (simp only []; go_at_K))
    ((with_reducible refine (D2 w12 hu12).mono ?_); rintro e w13 ⟨rfl, hu13⟩)
    have hr13 := hr12.upd hu13
    have U13 := U12.trans hu13
    clear D2 p0 p1 p2 p3 p4 q0 q1 q2 q3 q4 hr12 U12 n2 n3
    repeat' ((fail_if_success (with_reducible refine stop_append rfl ?_)); (fail_if_success (with_reducible refine stop_copy rfl ?_)); first | go_values | go_skip | go_guarded | go_step | go_upon | (simp only []; go_at_K))
    ((with_reducible refine (alogSlots w13 A l.length c l hr13 h1000 (fun x hx => (hlm x hx).2)).mono ?_); rintro e w14 ⟨A14, c14, rfl, ho14, hu14⟩)
    have hu14' : Upd [] [] w13 w14 := hu14.gives (by simp)
    have hr14 := hr13.upd hu14'
    have U14 := U13.trans hu14'
    clear hr13 U13 hu14 hu14'
    repeat' ((fail_if_success (with_reducible refine stop_append rfl ?_)); (fail_if_success (with_reducible refine stop_copy rfl ?_)); first | go_values | go_skip | go_guarded | go_step | go_upon | (simp only []; go_at_K))
    ((with_reducible refine (law07Real w14 A l.length c l hr14 (by omega)).mono ?_); rintro e w15 ⟨A15, c15, rfl, ho15, hu15⟩)
    have hu15' : Upd [] [] w14 w15 := hu15.gives (by simp)
    have hr15 := hr14.upd hu15'
    have hv15 : Rvs w15 A15 l.length l := ⟨⟨rfl, ho15.rd⟩, hr15.each⟩
    have ho14' := ho14.upd hu15' (by simp)
    have U15 := U14.trans hu15'
    clear hr14 U14 hu15 hu15' ho15 ho14
    repeat' ((fail_if_success (with_reducible refine stop_append rfl ?_)); (fail_if_success (with_reducible refine stop_copy rfl ?_)); first | go_values | go_skip | go_guarded | go_step | go_upon | (simp only []; go_at_K))
    ((with_reducible refine (ref07Slots w15 A15 l.length c15 l hv15 h1000).mono ?_); rintro e w16 ⟨A16, c16, rfl, ho16, hu16⟩)
    have ho14'' := ho14'.upd hu16 (by simp)
    have U16 := U15.trans (hu16.gives (b' := []) (by simp))
    have hsl := slotsL_len l
    have n4 := bne_self_eq_false ((slotsL l).length : Int)
    clear hr15 hv15 ho14' U15 hu16
    generalize slotsL l = u at *
    repeat' ((fail_if_success (with_reducible refine stop_append rfl ?_)); (fail_if_success (with_reducible refine stop_copy rfl ?_)); first | go_values | go_skip | go_guarded | go_step | go_upon | (simp only []; go_at_K))
    go_loopw [22] (fun v22 wr => ∃ i : Nat, i ≤ u.length ∧ v22 = .int .i64 (i : Int) ∧ Upd [] [] w16 wr) (fun v22 _ => u.length - (intOf v22).toNat)
    case atStart => exact ⟨0, by omega, rfl, Upd.refl _ _⟩
    case round =>
      obtain ⟨i, hi, rfl, V⟩ := hrel
      by_cases hlt : i < u.length
      · have hil : (i : Int) < (u.length : Int) := by omega
        have hw1 : IntKind.i64.wrap ((i : Int) + 1) = (i : Int) + 1 := by rw [IntKind.wrap_i64]; omega
        obtain ⟨ad, v, hA, hv, hc⟩ := (ho14''.upd V (by simp)).rd.at_ hlt
        obtain ⟨ad2, v2, hA2, hv2, hc2⟩ := (ho16.upd V (by simp)).rd.at_ hlt
        subst hA hA2
        rw [List.getElem?_map, List.getElem?_eq_getElem hlt, Option.map_some, Option.some.injEq] at hv hv2
        subst hv hv2
        have e1 := fun N => ((Upd.refl [] wr).drewN N).cell hc (by simp)
        have e2 := fun N => ((Upd.refl [] wr).drewN N).cell hc2 (by simp)
        have hne := bne_self_eq_false u[i]
        clear ho14'' ho16 hc hc2
        generalize u[i] = y at *
        repeat' ((fail_if_success (with_reducible refine stop_append rfl ?_)); (fail_if_success (with_reducible refine stop_copy rfl ?_)); first | go_values | go_skip | go_guarded | go_step | go_upon | (simp only []; go_at_K))
        go_quiet (fail)
        repeat' ((fail_if_success (with_reducible refine stop_append rfl ?_)); (fail_if_success (with_reducible refine stop_copy rfl ?_)); first | go_values | go_skip | go_guarded | go_step | go_upon | (simp only []; go_at_K))
        exact ⟨⟨i + 1, by omega, by simp, V.drewN _⟩, by simp [intOf]; omega⟩
      · obtain rfl : i = u.length := by omega
        have hil : ¬ ((u.length : Int) < (u.length : Int)) := by omega
        clear ho14'' ho16
        repeat' ((fail_if_success (with_reducible refine stop_append rfl ?_)); (fail_if_success (with_reducible refine stop_copy rfl ?_)); first | go_values | go_skip | go_guarded | go_step | go_upon | (simp only []; go_at_K))
        go_ret
        exact ⟨rfl, U16.trans V⟩
end Go.Proofs.Ytdmmpcdilkcfjaa
