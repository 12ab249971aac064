/- Messages: agiolaw13.NetCodes. -/
import Derived.Test.YtdmkhmejpgjioaaDoorNetA
import Derived.Test.YtdmkhmejpgjioaaDoorRef13c
import Derived.Test.YtdmkhmejpgjioaaDoorErrs6
set_option linter.all false
namespace Go.Proofs.YtdmkhmejpgjioaaDoor
open Go.RowKit Agio

def Mv.zero : Mv := ⟨0, 0, 0, 0, 0, 0, 0, 0, false, none, 0, 0, []⟩
open Classical in
/-- What bytes are decoded as: a message, and the error. -/
noncomputable def msOf (b : List UInt8) : Ms := if Whole b then (decI (b.drop 8)).getD Mv.zero.ms else Mv.zero.ms
open Classical in
noncomputable def erN (b : List UInt8) : Option Er := if Whole b then (match decI (b.drop 8) with | none => some (.nf 2) | some _ => none) else some (.nf 4)
theorem ndec_form {b : List UInt8} {w : World} {e : Ending} (h : NDec b w e) : ∃ x : Mv, x.ms = msOf b ∧ OwnB 5 w x.A x.n x.c x.b ∧
    e = .returned (.tuple #[.agg #[.int .i64 x.k, .int .i64 x.f, .int .i64 x.t, .int .i64 x.s, .int .i64 x.br, .int .i64 x.bs, .int .i64 x.hr, .int .i64 x.hs, .bool x.so, .slice x.A x.n x.c], errV (erN b)]) := by
  unfold msOf erN
  rcases h with ⟨hw, he⟩ | ⟨hw, hd, he⟩ | ⟨x, hw, hd, ho, he⟩
  · rw [if_neg hw, if_neg hw]; exact ⟨Mv.zero, rfl, OwnB.nil _ _, he⟩
  · rw [if_pos hw, if_pos hw, hd]; exact ⟨Mv.zero, rfl, OwnB.nil _ _, he⟩
  · rw [if_pos hw, if_pos hw, hd]; exact ⟨x, rfl, ho, he⟩
theorem n13_form {b : List UInt8} {w : World} {e : Ending} (h : N13 b w e) : ∃ x : Mv, x.ms = msOf b ∧ OwnB 5 w x.A x.n x.c x.b ∧
    e = .returned (.tuple #[.agg #[.int .i64 x.k, .int .i64 x.f, .int .i64 x.t, .int .i64 x.s, .int .i64 x.br, .int .i64 x.bs, .int .i64 x.hr, .int .i64 x.hs, .bool x.so, .slice x.A x.n x.c], .int .i64 (codeOf (erN b))]) := by
  unfold msOf erN
  rcases h with ⟨hw, he⟩ | ⟨hw, hd, he⟩ | ⟨x, hw, hd, ho, he⟩
  · rw [if_neg hw, if_neg hw]; exact ⟨Mv.zero, rfl, OwnB.nil _ _, he⟩
  · rw [if_pos hw, if_pos hw, hd]; exact ⟨Mv.zero, rfl, OwnB.nil _ _, he⟩
  · rw [if_pos hw, if_pos hw, hd]; exact ⟨x, rfl, ho, he⟩
theorem netOneV (x y : Mv) (w : World) (h1 : RdB w x.A x.n x.b) (h2 : RdB w y.A y.n y.b) (h : x.ms = y.ms) :
    Calls Tryd.prog 25 #[.agg #[.int .i64 x.k, .int .i64 x.f, .int .i64 x.t, .int .i64 x.s, .int .i64 x.br, .int .i64 x.bs, .int .i64 x.hr, .int .i64 x.hs, .bool x.so, .slice x.A x.n x.c], .agg #[.int .i64 y.k, .int .i64 y.f, .int .i64 y.t, .int .i64 y.s, .int .i64 y.br, .int .i64 y.bs, .int .i64 y.hr, .int .i64 y.hs, .bool y.so, .slice y.A y.n y.c]] w fun e w' => e = .returned (.bool true) ∧ Upd [] [] w w' := by
  obtain ⟨k, f, t, s, br, bs, hr, hs, so, A, n, c, b⟩ := x
  obtain ⟨k2, f2, t2, s2, br2, bs2, hr2, hs2, so2, A2, n2, c2, b2⟩ := y
  simp only [Mv.ms, Ms.mk.injEq] at h h1 h2
  obtain ⟨rfl, rfl, rfl, rfl, rfl, rfl, rfl, rfl, rfl, rfl⟩ := h
  exact netOne _ _ _ _ _ _ _ _ _ _ _ _ _ _ _ _ w h1 h2

/-- What both Encodes tell is the same. -/
theorem both_encN (x : Mv) (w : World) (hr : RdB w x.A x.n x.b) : ∃ (l : List UInt8) (n : Int),
    (Calls Tryd.prog 21 #[x.val] w fun e w' => ∃ A k c, e = .returned (.tuple #[.slice A k c, .int .i64 n]) ∧ RdB w' A k l ∧ Upd [] [] w w') ∧
    (∀ w, RdB w x.A x.n x.b → Calls Tryd.prog 22 #[x.val] w fun e w' => ∃ A k c, e = .returned (.tuple #[.slice A k c, .int .i64 n]) ∧ RdB w' A k l ∧ Upd [] [] w w') := by
  by_cases hm : x.ms.May
  · refine ⟨x.ms.bytes, 0, (netEncode x w hr hm).mono ?_, fun w hr => (ref13Encode x w hr hm).mono ?_⟩
    · rintro e w' ⟨A, k, c, rfl, ho, hu⟩; exact ⟨A, k, c, rfl, ho.rd, hu.gives (by simp)⟩
    · rintro e w' ⟨A, k, c, rfl, ho, hu⟩; exact ⟨A, k, c, rfl, ho.rd, hu.gives (by simp)⟩
  · refine ⟨[], 1, (netEncode_no x w hr hm).mono ?_, fun w hr => (ref13Encode_no x w hr hm).mono ?_⟩
    · rintro e w' ⟨rfl, hu⟩; exact ⟨none, 0, 0, rfl, RdB.nil _ _, hu⟩
    · rintro e w' ⟨rfl, hu⟩; exact ⟨none, 0, 0, rfl, RdB.nil _ _, hu⟩

set_option maxRecDepth 100000 in
set_option maxHeartbeats 4000000 in
theorem netCodes_any (w : World) (hG : GoodG w) (x : Mv) (hr : RdB w x.A x.n x.b) (B : Option Addr) (m d : Nat) (b : List UInt8) (hB : RdB w B m b) (hmd : m ≤ d) (hd : d ≤ maxLen) (hb : b.length ≤ 140737488355328) :
    Calls Tryd.prog 5 #[x.val, .slice B m d] w fun e w' => e = .returned (.bool true) ∧ Upd [] [] w w' := by
  have HD : Hid (∀ w0, RdB w0 B m b → Calls Tryd.prog 24 #[.slice B m d] w0 fun e w' => N13 b w' e ∧ Upd [] [] w0 w') := fun w0 h => ref13Decode w0 B m d b h hmd hd hb
  have HMD := Lib.hid hmd
  have HDD := Lib.hid hd
  clear hmd hd
  rw [Mv.val_eq]
  go_enter Tryd.func5, Tryd.ntmps5
  repeat' ((fail_if_success (with_reducible refine stop_append rfl ?_)); (fail_if_success (with_reducible refine stop_copy rfl ?_)); first | go_values | go_skip | go_guarded | go_step | go_upon | (simp only []; go_at_K))
  ((with_reducible refine (awake13 _).mono ?_); rintro e w1 ⟨rfl, hu1⟩)
  have U1 := ((Upd.refl [] w).alloc (.cells #[.int .i64 x.k, .int .i64 x.f, .int .i64 x.t, .int .i64 x.s, .int .i64 x.br, .int .i64 x.bs, .int .i64 x.hr, .int .i64 x.hs, .bool x.so, .slice x.A x.n x.c] 56)).trans hu1
  have hX := (Blk.new w 56 #[.int .i64 x.k, .int .i64 x.f, .int .i64 x.t, .int .i64 x.s, .int .i64 x.br, .int .i64 x.bs, .int .i64 x.hr, .int .i64 x.hs, .bool x.so, .slice x.A x.n x.c]).upd hu1 (by simp)
  have hr1 := hr.upd U1 (by simp)
  have hB1 := hB.upd U1 (by simp)
  have hG1 := hG.upd U1 (by simp)
  obtain ⟨⟨q0, q1, q2, q3, q4, q5, q6, q7, q8, q9⟩, -⟩ := hX.c10
  obtain ⟨bs, no, C1, C2⟩ := both_encN x w1 hr1
  rw [Mv.val_eq] at C1 C2
  clear hu1 hr hB hG
  repeat' ((fail_if_success (with_reducible refine stop_append rfl ?_)); (fail_if_success (with_reducible refine stop_copy rfl ?_)); first | go_values | go_skip | go_guarded | go_step | go_upon | (simp only []; go_at_K))
  ((with_reducible refine C1.mono ?_); rintro e w2 ⟨A2, k2, c2, rfl, ho2, hu2⟩)
  have hX2 := hX.upd hu2 (by simp)
  have hr2 := hr1.upd hu2 (by simp)
  have hB2 := hB1.upd hu2 (by simp)
  have hG2 := hG1.upd hu2 (by simp)
  have U2 := U1.trans hu2
  have C3 := C2 w2 hr2
  clear q0 q1 q2 q3 q4 q5 q6 q7 q8 q9 C1 C2 hX hr1 hB1 hG1 U1 hu2
  obtain ⟨⟨q0, q1, q2, q3, q4, q5, q6, q7, q8, q9⟩, -⟩ := hX2.c10
  repeat' ((fail_if_success (with_reducible refine stop_append rfl ?_)); (fail_if_success (with_reducible refine stop_copy rfl ?_)); first | go_values | go_skip | go_guarded | go_step | go_upon | (simp only []; go_at_K))
  ((with_reducible refine C3.mono ?_); rintro e w3 ⟨A3, k3, c3, rfl, ho3, hu3⟩)
  have hB3 := hB2.upd hu3 (by simp)
  have hG3 := hG2.upd hu3 (by simp)
  have ho23 := ho2.upd hu3 (by simp)
  have U3 := U2.trans hu3
  clear q0 q1 q2 q3 q4 q5 q6 q7 q8 q9 C3 hX2 hr2 hB2 hG2 U2 hu3 ho2
  repeat' ((fail_if_success (with_reducible refine stop_append rfl ?_)); (fail_if_success (with_reducible refine stop_copy rfl ?_)); first | go_values | go_skip | go_guarded | go_step | go_upon | (simp only []; go_at_K))
  ((with_reducible refine (netDecode w3 B m d b hB3 HMD.out HDD.out hb).mono ?_); rintro e w4 ⟨hD, hu4⟩)
  obtain ⟨y, hy, hoy, rfl⟩ := ndec_form hD
  have hYb := Blk.new w4 56 #[.int .i64 y.k, .int .i64 y.f, .int .i64 y.t, .int .i64 y.s, .int .i64 y.br, .int .i64 y.bs, .int .i64 y.hr, .int .i64 y.hs, .bool y.so, .slice y.A y.n y.c]
  have U4 : Upd [] [] w3 (w4.alloc (.cells #[.int .i64 y.k, .int .i64 y.f, .int .i64 y.t, .int .i64 y.s, .int .i64 y.br, .int .i64 y.bs, .int .i64 y.hr, .int .i64 y.hs, .bool y.so, .slice y.A y.n y.c] 56)) := hu4.alloc _
  have hB4 := hB3.upd U4 (by simp)
  have hG4 := hG3.upd U4 (by simp)
  have ho24 := ho23.upd U4 (by simp)
  have ho34 := ho3.upd U4 (by simp)
  have V4 := U3.trans U4
  have hy4 := hoy.alloc (.cells #[.int .i64 y.k, .int .i64 y.f, .int .i64 y.t, .int .i64 y.s, .int .i64 y.br, .int .i64 y.bs, .int .i64 y.hr, .int .i64 y.hs, .bool y.so, .slice y.A y.n y.c] 56)
  have hy3 := hYb
  generalize hO : erN b = o at *
  clear hB3 hG3 ho23 ho3 U3 hu4 hD hoy U4
  repeat' ((fail_if_success (with_reducible refine stop_append rfl ?_)); (fail_if_success (with_reducible refine stop_copy rfl ?_)); first | go_values | go_skip | go_guarded | go_step | go_upon | (simp only []; go_at_K))
  generalize w4.alloc (.cells #[.int .i64 y.k, .int .i64 y.f, .int .i64 y.t, .int .i64 y.s, .int .i64 y.br, .int .i64 y.bs, .int .i64 y.hr, .int .i64 y.hs, .bool y.so, .slice y.A y.n y.c] 56) = w5 at *
  generalize w4.heap.size = g4 at *
  ((with_reducible refine (HD.out w5 hB4).mono ?_); rintro e w6 ⟨hD2, hu6⟩)
  obtain ⟨z, hz, hoz, rfl⟩ := n13_form hD2
  rw [hO]
  have hZb := Blk.new w6 56 #[.int .i64 z.k, .int .i64 z.f, .int .i64 z.t, .int .i64 z.s, .int .i64 z.br, .int .i64 z.bs, .int .i64 z.hr, .int .i64 z.hs, .bool z.so, .slice z.A z.n z.c]
  have U6 : Upd [] [] w5 (w6.alloc (.cells #[.int .i64 z.k, .int .i64 z.f, .int .i64 z.t, .int .i64 z.s, .int .i64 z.br, .int .i64 z.bs, .int .i64 z.hr, .int .i64 z.hs, .bool z.so, .slice z.A z.n z.c] 56)) := hu6.alloc _
  have hG6 := hG4.upd U6 (by simp)
  have s1 := strOf (ho24.upd U6 (by simp)) c2
  have s2 := strOf (ho34.upd U6 (by simp)) c3
  have hy6 := hy4.upd U6 (by simp)
  have hz6 := hoz.alloc (.cells #[.int .i64 z.k, .int .i64 z.f, .int .i64 z.t, .int .i64 z.s, .int .i64 z.br, .int .i64 z.bs, .int .i64 z.hr, .int .i64 z.hs, .bool z.so, .slice z.A z.n z.c] 56)
  have V6 := V4.trans U6
  obtain ⟨⟨q0, q1, q2, q3, q4, q5, q6, q7, q8, q9⟩, -⟩ := (hYb.upd U6 (by simp)).c10
  obtain ⟨⟨p0, p1, p2, p3, p4, p5, p6, p7, p8, p9⟩, -⟩ := hZb.c10
  have hyz : y.ms = z.ms := hy.trans hz.symm
  clear hB4 hG4 ho24 ho34 V4 hy4 hu6 hD2 hoz U6 hYb hy3 hy hz
  repeat' ((fail_if_success (with_reducible refine stop_append rfl ?_)); (fail_if_success (with_reducible refine stop_copy rfl ?_)); first | go_values | go_skip | go_guarded | go_step | go_upon | (simp only []; go_at_K))
  ((with_reducible refine (netOneV y z _ hy6.rd hz6.rd hyz).mono ?_); rintro e w7 ⟨rfl, hu7⟩)
  have hG7 := hG6.upd hu7 (by simp)
  have V7 := V6.trans hu7
  clear hy6 hz6 hG6 V6 hu7 s1 s2 q0 q1 q2 q3 q4 q5 q6 q7 q8 q9 p0 p1 p2 p3 p4 p5 p6 p7 p8 p9 hZb
  repeat' ((fail_if_success (with_reducible refine stop_append rfl ?_)); (fail_if_success (with_reducible refine stop_copy rfl ?_)); first | go_values | go_skip | go_guarded | go_step | go_upon | (simp only []; go_at_K))
  ((with_reducible refine (codeAny o w7 hG7).mono ?_); rintro e w8 ⟨rfl, hu8⟩)
  repeat' ((fail_if_success (with_reducible refine stop_append rfl ?_)); (fail_if_success (with_reducible refine stop_copy rfl ?_)); first | go_values | go_skip | go_guarded | go_step | go_upon | (simp only []; go_at_K))
  go_ret
  exact ⟨rfl, V7.trans hu8⟩
end Go.Proofs.YtdmkhmejpgjioaaDoor
