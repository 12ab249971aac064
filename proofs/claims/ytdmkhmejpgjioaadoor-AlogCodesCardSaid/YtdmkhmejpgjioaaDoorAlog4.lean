/- Records: (agio/alog).Decode. -/
import Derived.Test.YtdmkhmejpgjioaaDoorAlog3
set_option linter.all false
namespace Go.Proofs.YtdmkhmejpgjioaaDoor
open Go.RowKit Agio

/-- A slice that came in, or is the call's own: what is asked of its bounds. -/
def Rv.zero : Rv := ⟨0, 0, 0, 0, none, 0, 0, []⟩
/-- What Decode tells. -/
def ADec (b : List UInt8) (w : World) (e : Ending) : Prop :=
  (decR b = none ∧ e = .returned (.tuple #[.agg #[.int .i64 0, .int .i64 0, .int .i64 0, .int .i64 0, .slice none 0 0], .iface 104 (.agg #[.int .i64 2])])) ∨
  ∃ x : Rv, decR b = some x.rc ∧ OwnB 5 w x.A x.n x.c x.b ∧ e = .returned (.tuple #[.agg #[.int .i64 x.k, .int .i64 x.s, .int .i64 x.r, .int .i64 x.t, .slice x.A x.n x.c], .nilIface])

set_option maxRecDepth 100000 in
set_option maxHeartbeats 4000000 in
theorem alogDecode (w : World) (B : Option Addr) (m d : Nat) (b : List UInt8) (hB : RdB w B m b) (hb : b.length ≤ 140737488355328) :
    Calls Tryd.prog 17 #[.slice B m d] w fun e w' => ADec b w' e ∧ Upd [] [] w w' := by
  have hR0 := Blk.new w 44 #[.int .i64 0, .int .i64 0, .int .i64 0, .int .i64 0, .slice none 0 0]
  have C := alogRead _ B m d b (hB.alloc (.cells #[.int .i64 0, .int .i64 0, .int .i64 0, .int .i64 0, .slice none 0 0] 44)) hb
  go_enter Tryd.func17, Tryd.ntmps17
  repeat' ((fail_if_success (with_reducible refine stop_append rfl ?_)); (fail_if_success (with_reducible refine stop_copy rfl ?_)); first | go_values | go_skip | go_guarded | go_step | go_upon | (simp only []; go_at_K))
  ((with_reducible refine C.mono ?_); rintro e w1 ⟨hT, hu1⟩)
  have hR1 := hR0.upd hu1 (by simp)
  have U1 : Upd [] [] w w1 := ((Upd.refl [] w).alloc _).trans hu1
  clear C hR0 hu1
  rcases hT with ⟨i0, i1, i2, i3, A, n, c, t, x, hbody, rfl⟩ | ⟨n0, n1, n2, n3, v, A, n, c, hbody, ho1, rfl⟩
  · have HN := Lib.hid (decR_none (dec_none (.inl rfl) hbody))
    clear hbody
    have hR2 := hR1.alloc (.cells #[.int .i64 i0, .int .i64 i1, .int .i64 i2, .int .i64 i3, .slice A n c] 44)
    have U2 := U1.alloc (.cells #[.int .i64 i0, .int .i64 i1, .int .i64 i2, .int .i64 i3, .slice A n c] 44)
    have hlR := hR1.lt
    obtain ⟨⟨q0, q1, q2, q3, q4⟩, f0, f1, f2, f3, f4⟩ := hR1.c5
    repeat' ((fail_if_success (with_reducible refine stop_append rfl ?_)); (fail_if_success (with_reducible refine stop_copy rfl ?_)); first | go_values | go_skip | go_guarded | go_step | go_upon | (simp only []; go_at_K))
    have N := rowSet [.int .i64 0, .int .i64 0, .int .i64 0, .int .i64 0, .slice none 0 0] hR1 rfl U1 (.inr (by omega))
    simp only [setRow] at N
    generalize World.setCell _ ⟨w.heap.size, 4, none⟩ _ = W5 at N ⊢
    obtain ⟨hN, hU5⟩ := N
    clear q0 q1 q2 q3 q4
    have hN := hN.alloc (.cells #[.int .i64 i0, .int .i64 i1, .int .i64 i2, .int .i64 i3, .slice A n c] 44)
    obtain ⟨⟨q0, q1, q2, q3, q4⟩, -⟩ := hN.c5
    exact bodyPost_ret (v := .tuple #[.agg #[.int .i64 0, .int .i64 0, .int .i64 0, .int .i64 0, .slice none 0 0], .iface 104 (.agg #[.int .i64 2])]) (by simp [results, Tryd.results17, go_sem, q0, q1, q2, q3, q4]) rfl ⟨.inl ⟨HN.out, rfl⟩, hU5.alloc _⟩
  · obtain ⟨hby, huniq⟩ := dec_body (.inl rfl) hbody
    obtain ⟨x, hx⟩ : ∃ x : Rv, x = ⟨n0, n1, n2, n3, A, n, c, v⟩ := ⟨_, rfl⟩
    have hxr : x.rc = Rc.of n0 n1 n2 n3 v := by rw [hx]; rfl
    have ho1 : OwnB 5 w1 x.A x.n x.c x.b := by rw [hx]; exact ho1
    have hxv : x.val = .agg #[.int .i64 x.k, .int .i64 x.s, .int .i64 x.r, .int .i64 x.t, .slice x.A x.n x.c] := rfl
    have hxe : (Value.tuple #[.agg #[.int .i64 (n0 : Int), .int .i64 (n1 : Int), .int .i64 (n2 : Int), .int .i64 (n3 : Int), .slice A n c], .nilIface]) = .tuple #[.agg #[.int .i64 x.k, .int .i64 x.s, .int .i64 x.r, .int .i64 x.t, .slice x.A x.n x.c], .nilIface] := by rw [hx]
    rw [hxe]
    rw [← hxr] at hby huniq
    clear hx hxr hxe hbody
    have hR2 := hR1.alloc (.cells #[.int .i64 x.k, .int .i64 x.s, .int .i64 x.r, .int .i64 x.t, .slice x.A x.n x.c] 44)
    have U2 := U1.alloc (.cells #[.int .i64 x.k, .int .i64 x.s, .int .i64 x.r, .int .i64 x.t, .slice x.A x.n x.c] 44)
    have hT2 := Blk.new w1 44 #[.int .i64 x.k, .int .i64 x.s, .int .i64 x.r, .int .i64 x.t, .slice x.A x.n x.c]
    have ho2 := ho1.alloc (.cells #[.int .i64 x.k, .int .i64 x.s, .int .i64 x.r, .int .i64 x.t, .slice x.A x.n x.c] 44)
    have hlR := hR1.lt
    by_cases hm : x.rc.May
    · have HN := Lib.hid (decR_some (b := b) (r := x.rc) ⟨hm, hby⟩)
      have M := alogMay_yes x _ ho2.rd hm
      rw [hxv] at M
      clear hm hby huniq hxv
      repeat' ((fail_if_success (with_reducible refine stop_append rfl ?_)); (fail_if_success (with_reducible refine stop_copy rfl ?_)); first | go_values | go_skip | go_guarded | go_step | go_upon | (simp only []; go_at_K))
      ((with_reducible refine M.mono ?_); rintro e w2 ⟨rfl, hu2⟩)
      have hR3 := hR2.upd hu2 (by simp)
      have hT3 := hT2.upd hu2 (by simp)
      have ho3 := ho2.upd hu2 (by simp)
      have U3 := U2.trans hu2
      have hne : ∀ j ∈ ablk x.A, j ≠ w.heap.size := by rintro j hj rfl; exact ho3.own.ne hR3 (by decide) hj
      clear hR2 hT2 ho2 U2 hu2 ho1
      obtain ⟨⟨t0, t1, t2, t3, t4⟩, -⟩ := hT3.c5
      obtain ⟨⟨q0, q1, q2, q3, q4⟩, f0, f1, f2, f3, f4⟩ := hR3.c5
      repeat' ((fail_if_success (with_reducible refine stop_append rfl ?_)); (fail_if_success (with_reducible refine stop_copy rfl ?_)); first | go_values | go_skip | go_guarded | go_step | go_upon | (simp only []; go_at_K))
      have N := rowSet [.int .i64 x.k, .int .i64 x.s, .int .i64 x.r, .int .i64 x.t, .slice x.A x.n x.c] hR3 rfl U3 (.inr (by omega))
      have N2 := rowSet [.int .i64 x.k, .int .i64 x.s, .int .i64 x.r, .int .i64 x.t, .slice x.A x.n x.c] hR3 rfl (Upd.refl [w.heap.size] w2) (.inl (by simp))
      have ho5 := ho3.upd N2.2 (by intro j hj; simpa using hne j hj)
      clear N2
      simp only [setRow] at N ho5
      generalize World.setCell _ ⟨w.heap.size, 4, none⟩ _ = W5 at N ho5 ⊢
      obtain ⟨hN, hU5⟩ := N
      clear q0 q1 q2 q3 q4
      obtain ⟨⟨q0, q1, q2, q3, q4⟩, -⟩ := hN.c5
      exact bodyPost_ret (v := .tuple #[.agg #[.int .i64 x.k, .int .i64 x.s, .int .i64 x.r, .int .i64 x.t, .slice x.A x.n x.c], .nilIface]) (by simp [results, Tryd.results17, go_sem, q0, q1, q2, q3, q4]) rfl ⟨.inr ⟨x, HN.out, ho5, rfl⟩, hU5⟩
    · have HN := Lib.hid (decR_none (b := b) fun r hr => hm (by rw [← huniq r hr]; exact hr.1))
      have M := alogMay_no x _ ho2.rd hm
      rw [hxv] at M
      clear hm hby huniq hxv
      repeat' ((fail_if_success (with_reducible refine stop_append rfl ?_)); (fail_if_success (with_reducible refine stop_copy rfl ?_)); first | go_values | go_skip | go_guarded | go_step | go_upon | (simp only []; go_at_K))
      ((with_reducible refine M.mono ?_); rintro e w2 ⟨rfl, hu2⟩)
      have hR3 := hR2.upd hu2 (by simp)
      have U3 := U2.trans hu2
      clear hR2 hT2 ho2 U2 hu2 ho1
      obtain ⟨⟨q0, q1, q2, q3, q4⟩, f0, f1, f2, f3, f4⟩ := hR3.c5
      repeat' ((fail_if_success (with_reducible refine stop_append rfl ?_)); (fail_if_success (with_reducible refine stop_copy rfl ?_)); first | go_values | go_skip | go_guarded | go_step | go_upon | (simp only []; go_at_K))
      have N := rowSet [.int .i64 0, .int .i64 0, .int .i64 0, .int .i64 0, .slice none 0 0] hR3 rfl U3 (.inr (by omega))
      simp only [setRow] at N
      generalize World.setCell _ ⟨w.heap.size, 4, none⟩ _ = W5 at N ⊢
      obtain ⟨hN, hU5⟩ := N
      clear q0 q1 q2 q3 q4
      obtain ⟨⟨q0, q1, q2, q3, q4⟩, -⟩ := hN.c5
      exact bodyPost_ret (v := .tuple #[.agg #[.int .i64 0, .int .i64 0, .int .i64 0, .int .i64 0, .slice none 0 0], .iface 104 (.agg #[.int .i64 2])]) (by simp [results, Tryd.results17, go_sem, q0, q1, q2, q3, q4]) rfl ⟨.inl ⟨HN.out, rfl⟩, hU5⟩
end Go.Proofs.YtdmkhmejpgjioaaDoor
