/- Records: agiolaw07.AlogCodes. -/
import Derived.Test.YtdmkhmejpgjioaaDoorAlogA
import Derived.Test.YtdmkhmejpgjioaaDoorRef07b
import Derived.Test.YtdmkhmejpgjioaaDoorErrs6
set_option linter.all false
namespace Go.Proofs.YtdmkhmejpgjioaaDoor
open Go.RowKit Agio

/-- What bytes are decoded as: a record, and the error. -/
noncomputable def rcOf (b : List UInt8) : Rc := (decR b).getD Rv.zero.rc
noncomputable def erOf (b : List UInt8) : Option Er := match decR b with | none => some (.af 2) | some _ => none
theorem adec_form {b : List UInt8} {w : World} {e : Ending} (h : ADec b w e) : ∃ x : Rv, x.rc = rcOf b ∧ OwnB 5 w x.A x.n x.c x.b ∧
    e = .returned (.tuple #[.agg #[.int .i64 x.k, .int .i64 x.s, .int .i64 x.r, .int .i64 x.t, .slice x.A x.n x.c], errV (erOf b)]) := by
  unfold rcOf erOf
  rcases h with ⟨hd, he⟩ | ⟨x, hd, ho, he⟩
  · rw [hd]; exact ⟨Rv.zero, rfl, OwnB.nil _ _, he⟩
  · rw [hd]; exact ⟨x, rfl, ho, he⟩
theorem rdec_form {b : List UInt8} {w : World} {e : Ending} (h : RDec b w e) : ∃ x : Rv, x.rc = rcOf b ∧ OwnB 5 w x.A x.n x.c x.b ∧
    e = .returned (.tuple #[.agg #[.int .i64 x.k, .int .i64 x.s, .int .i64 x.r, .int .i64 x.t, .slice x.A x.n x.c], .int .i64 (codeOf (erOf b))]) := by
  unfold rcOf erOf
  rcases h with ⟨hd, he⟩ | ⟨x, hd, ho, he⟩
  · rw [hd]; exact ⟨Rv.zero, rfl, OwnB.nil _ _, he⟩
  · rw [hd]; exact ⟨x, rfl, ho, he⟩

/-- What both Encodes tell is the same. -/
theorem both_enc (x : Rv) (w : World) (hr : RdB w x.A x.n x.b) : ∃ (l : List UInt8) (n : Int),
    (Calls Tryd.prog 15 #[x.val] w fun e w' => ∃ A k c, e = .returned (.tuple #[.slice A k c, .int .i64 n]) ∧ RdB w' A k l ∧ Upd [] [] w w') ∧
    (∀ w, RdB w x.A x.n x.b → Calls Tryd.prog 16 #[x.val] w fun e w' => ∃ A k c, e = .returned (.tuple #[.slice A k c, .int .i64 n]) ∧ RdB w' A k l ∧ Upd [] [] w w') := by
  by_cases hm : x.rc.May
  · refine ⟨x.rc.bytes, 0, (alogEncode x w hr hm).mono ?_, fun w hr => (ref07Encode x w hr hm).mono ?_⟩
    · rintro e w' ⟨A, k, c, rfl, ho, hu⟩; exact ⟨A, k, c, rfl, ho.rd, hu.gives (by simp)⟩
    · rintro e w' ⟨A, k, c, rfl, ho, hu⟩; exact ⟨A, k, c, rfl, ho.rd, hu.gives (by simp)⟩
  · refine ⟨[], 1, (alogEncode_no x w hr hm).mono ?_, fun w hr => (ref07Encode_no x w hr hm).mono ?_⟩
    · rintro e w' ⟨rfl, hu⟩; exact ⟨none, 0, 0, rfl, RdB.nil _ _, hu⟩
    · rintro e w' ⟨rfl, hu⟩; exact ⟨none, 0, 0, rfl, RdB.nil _ _, hu⟩

set_option maxRecDepth 100000 in
set_option maxHeartbeats 4000000 in
theorem alogCodes_any (w : World) (hG : GoodG w) (x : Rv) (hr : RdB w x.A x.n x.b) (B : Option Addr) (m d : Nat) (b : List UInt8) (hB : RdB w B m b) (hmd : m ≤ d) (hd : d ≤ maxLen) (hb : b.length ≤ 140737488355328) :
    Calls Tryd.prog 4 #[x.val, .slice B m d] w fun e w' => e = .returned (.bool true) ∧ Upd [] [] w w' := by
  have HD : Hid (∀ w0, RdB w0 B m b → Calls Tryd.prog 18 #[.slice B m d] w0 fun e w' => RDec b w' e ∧ Upd [] [] w0 w') := fun w0 h => ref07Decode w0 B m d b h hmd hd hb
  clear hmd hd
  rw [Rv.val_eq]
  go_enter Tryd.func4, Tryd.ntmps4
  repeat' ((fail_if_success (with_reducible refine stop_append rfl ?_)); (fail_if_success (with_reducible refine stop_copy rfl ?_)); first | go_values | go_skip | go_guarded | go_step | go_upon | (simp only []; go_at_K))
  ((with_reducible refine (awake07 _).mono ?_); rintro e w1 ⟨rfl, hu1⟩)
  have U1 := ((Upd.refl [] w).alloc (.cells #[.int .i64 x.k, .int .i64 x.s, .int .i64 x.r, .int .i64 x.t, .slice x.A x.n x.c] 44)).trans hu1
  have hX := (Blk.new w 44 #[.int .i64 x.k, .int .i64 x.s, .int .i64 x.r, .int .i64 x.t, .slice x.A x.n x.c]).upd hu1 (by simp)
  have hr1 := hr.upd U1 (by simp)
  have hB1 := hB.upd U1 (by simp)
  have hG1 := hG.upd U1 (by simp)
  obtain ⟨⟨q0, q1, q2, q3, q4⟩, -⟩ := hX.c5
  obtain ⟨bs, no, C1, C2⟩ := both_enc x w1 hr1
  rw [Rv.val_eq] at C1 C2
  clear hu1 hr hB hG
  repeat' ((fail_if_success (with_reducible refine stop_append rfl ?_)); (fail_if_success (with_reducible refine stop_copy rfl ?_)); first | go_values | go_skip | go_guarded | go_step | go_upon | (simp only []; go_at_K))
  ((with_reducible refine C1.mono ?_); rintro e w2 ⟨A2, k2, c2, rfl, ho2, hu2⟩)
  have hX2 := hX.upd hu2 (by simp)
  have hr2 := hr1.upd hu2 (by simp)
  have hB2 := hB1.upd hu2 (by simp)
  have hG2 := hG1.upd hu2 (by simp)
  have U2 := U1.trans hu2
  have C3 := C2 w2 hr2
  clear q0 q1 q2 q3 q4 C1 C2 hX hr1 hB1 hG1 U1 hu2
  obtain ⟨⟨q0, q1, q2, q3, q4⟩, -⟩ := hX2.c5
  repeat' ((fail_if_success (with_reducible refine stop_append rfl ?_)); (fail_if_success (with_reducible refine stop_copy rfl ?_)); first | go_values | go_skip | go_guarded | go_step | go_upon | (simp only []; go_at_K))
  ((with_reducible refine C3.mono ?_); rintro e w3 ⟨A3, k3, c3, rfl, ho3, hu3⟩)
  have hB3 := hB2.upd hu3 (by simp)
  have hG3 := hG2.upd hu3 (by simp)
  have ho23 := ho2.upd hu3 (by simp)
  have U3 := U2.trans hu3
  clear q0 q1 q2 q3 q4 C3 hX2 hr2 hB2 hG2 U2 hu3 ho2
  repeat' ((fail_if_success (with_reducible refine stop_append rfl ?_)); (fail_if_success (with_reducible refine stop_copy rfl ?_)); first | go_values | go_skip | go_guarded | go_step | go_upon | (simp only []; go_at_K))
  ((with_reducible refine (alogDecode w3 B m d b hB3 hb).mono ?_); rintro e w4 ⟨hD, hu4⟩)
  obtain ⟨y, hy, hoy, rfl⟩ := adec_form hD
  have hYb := Blk.new w4 44 #[.int .i64 y.k, .int .i64 y.s, .int .i64 y.r, .int .i64 y.t, .slice y.A y.n y.c]
  have U4 : Upd [] [] w3 (w4.alloc (.cells #[.int .i64 y.k, .int .i64 y.s, .int .i64 y.r, .int .i64 y.t, .slice y.A y.n y.c] 44)) := hu4.alloc _
  have hB4 := hB3.upd U4 (by simp)
  have hG4 := hG3.upd U4 (by simp)
  have ho24 := ho23.upd U4 (by simp)
  have ho34 := ho3.upd U4 (by simp)
  have V4 := U3.trans U4
  have hy4 := hoy.alloc (.cells #[.int .i64 y.k, .int .i64 y.s, .int .i64 y.r, .int .i64 y.t, .slice y.A y.n y.c] 44)
  have hy3 := hYb
  generalize hO : erOf b = o at *
  clear hB3 hG3 ho23 ho3 U3 hu4 hD hoy U4
  repeat' ((fail_if_success (with_reducible refine stop_append rfl ?_)); (fail_if_success (with_reducible refine stop_copy rfl ?_)); first | go_values | go_skip | go_guarded | go_step | go_upon | (simp only []; go_at_K))
  generalize w4.alloc (.cells #[.int .i64 y.k, .int .i64 y.s, .int .i64 y.r, .int .i64 y.t, .slice y.A y.n y.c] 44) = w5 at *
  generalize w4.heap.size = g4 at *
  ((with_reducible refine (HD.out w5 hB4).mono ?_); rintro e w6 ⟨hD2, hu6⟩)
  obtain ⟨z, hz, hoz, rfl⟩ := rdec_form hD2
  rw [hO]
  have hZb := Blk.new w6 48 #[.int .i64 z.k, .int .i64 z.s, .int .i64 z.r, .int .i64 z.t, .slice z.A z.n z.c]
  have U6 : Upd [] [] w5 (w6.alloc (.cells #[.int .i64 z.k, .int .i64 z.s, .int .i64 z.r, .int .i64 z.t, .slice z.A z.n z.c] 48)) := hu6.alloc _
  have hG6 := hG4.upd U6 (by simp)
  have s1 := strOf (ho24.upd U6 (by simp)) c2
  have s2 := strOf (ho34.upd U6 (by simp)) c3
  have hy6 := hy4.upd U6 (by simp)
  have hz6 := hoz.alloc (.cells #[.int .i64 z.k, .int .i64 z.s, .int .i64 z.r, .int .i64 z.t, .slice z.A z.n z.c] 48)
  have V6 := V4.trans U6
  obtain ⟨⟨q0, q1, q2, q3, q4⟩, -⟩ := (hYb.upd U6 (by simp)).c5
  obtain ⟨⟨p0, p1, p2, p3, p4⟩, -⟩ := hZb.c5
  have hyz : y.rc = z.rc := hy.trans hz.symm
  clear hB4 hG4 ho24 ho34 V4 hy4 hu6 hD2 hoz U6 hYb hy3 hy hz
  repeat' ((fail_if_success (with_reducible refine stop_append rfl ?_)); (fail_if_success (with_reducible refine stop_copy rfl ?_)); first | go_values | go_skip | go_guarded | go_step | go_upon | (simp only []; go_at_K))
  ((with_reducible refine (ref07One y z _ hy6.rd hz6.rd hyz).mono ?_); rintro e w7 ⟨rfl, hu7⟩)
  have hG7 := hG6.upd hu7 (by simp)
  have V7 := V6.trans hu7
  clear hy6 hz6 hG6 V6 hu7 s1 s2 q0 q1 q2 q3 q4 p0 p1 p2 p3 p4 hZb
  repeat' ((fail_if_success (with_reducible refine stop_append rfl ?_)); (fail_if_success (with_reducible refine stop_copy rfl ?_)); first | go_values | go_skip | go_guarded | go_step | go_upon | (simp only []; go_at_K))
  ((with_reducible refine (codeAny o w7 hG7).mono ?_); rintro e w8 ⟨rfl, hu8⟩)
  repeat' ((fail_if_success (with_reducible refine stop_append rfl ?_)); (fail_if_success (with_reducible refine stop_copy rfl ?_)); first | go_values | go_skip | go_guarded | go_step | go_upon | (simp only []; go_at_K))
  go_ret
  exact ⟨rfl, V7.trans hu8⟩
end Go.Proofs.YtdmkhmejpgjioaaDoor
