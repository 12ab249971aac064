/- Commands: agiolaw05.CmdCodes. -/
import Derived.Test.YtmnoahglajilhaaDoorRef05d
import Derived.Test.YtmnoahglajilhaaDoorRef05e
import Derived.Test.YtmnoahglajilhaaDoorRef05b
import Derived.Test.YtmnoahglajilhaaDoorBase2
import Derived.Deep.RegionHeld3
set_option linter.all false
namespace Go.Proofs.YtmnoahglajilhaaDoor
open Go.RowKit Agio

theorem I_of_may {c : Cm} (hm : c.may = true) (hI : c.I) : c.I := hI
/-- What both Encodes tell is the same. -/
theorem both_enc5 (HM : ∀ (c : Cm) (w : World), Calls Tryd.prog 12 #[c.val] w fun e w' => e = .returned (.int .i64 c.err) ∧ Upd [] [] w w') (c : Cm) (hI : c.may = true → c.I) : ∃ (l : List UInt8) (o : Option Er),
    (∀ w, Calls Tryd.prog 7 #[c.val] w fun e w' => ∃ A k d, e = .returned (.tuple #[.slice A k d, errV o]) ∧ RdB w' A k l ∧ Upd [] [] w w') ∧
    (∀ w, Calls Tryd.prog 8 #[c.val] w fun e w' => ∃ A k d, e = .returned (.tuple #[.slice A k d, .int .i64 (codeOf o)]) ∧ RdB w' A k l ∧ Upd [] [] w w') := by
  cases hm : c.may with
  | true =>
    refine ⟨c.bytes, none, fun w => (cmdEncode_ok c hm (hI hm) w).mono ?_, fun w => (ref05Encode_ok c hm (hI hm) (HM c) w).mono ?_⟩
    · rintro e w' ⟨A, k, d, rfl, ho, hu⟩; exact ⟨A, k, d, rfl, ho.rd, hu.gives (by simp)⟩
    · rintro e w' ⟨A, k, d, rfl, ho, hu⟩; exact ⟨A, k, d, rfl, ho.rd, hu.gives (by simp)⟩
  | false =>
    refine ⟨[], some (.cf (.no 1)), fun w => (cmdEncode_bad c hm w).mono ?_, fun w => (ref05Encode_bad c hm (HM c) w).mono ?_⟩
    · rintro e w' ⟨rfl, hu⟩; exact ⟨none, 0, 0, rfl, RdB.nil _ _, hu⟩
    · rintro e w' ⟨rfl, hu⟩; exact ⟨none, 0, 0, rfl, RdB.nil _ _, hu⟩
/-- What bytes are decoded as: a command, and the error. -/
def cmOf (b : List UInt8) : Cm := match cmdDec b with | .inl _ => Cm.zero | .inr c => c
def er5 (b : List UInt8) : Option Er := match cmdDec b with | .inl e => some e | .inr _ => none
theorem dec5_form {b : List UInt8} {e : Ending} (h : DecTold b e) : e = .returned (.tuple #[(cmOf b).val, errV (er5 b)]) := by
  unfold cmOf er5
  rcases h with ⟨er, hd, he⟩ | ⟨c, hd, he⟩
  · rw [hd]; exact he
  · rw [hd]; exact he
theorem r5_form {b : List UInt8} {e : Ending} (h : R5 b e) : e = .returned (.tuple #[(cmOf b).val, .int .i64 (codeOf (er5 b))]) := by
  unfold cmOf er5
  rcases h with ⟨er, hd, he⟩ | ⟨c, hd, he⟩
  · rw [hd]; exact he
  · rw [hd]; exact he

/-- What the last test reads, in whatever world it stands. -/
structure Kp (w0 : World) (g0 g4 g6 : Nat) (c y : Cm) (A2 : Option Addr) (k2 : Nat) (A3 : Option Addr) (k3 : Nat) (bs : List UInt8) (w' : World) : Prop where
  fx : Blk w' g0 23 #[.int .i64 c.k, .int .i64 c.cl, .int .i64 c.sq, .int .i64 c.tm, .int .i64 c.s, .int .i64 c.a, .int .i64 c.p, .int .i64 c.q, .int .i64 c.i]
  fy : Blk w' g4 23 #[.int .i64 y.k, .int .i64 y.cl, .int .i64 y.sq, .int .i64 y.tm, .int .i64 y.s, .int .i64 y.a, .int .i64 y.p, .int .i64 y.q, .int .i64 y.i]
  fz : Blk w' g6 23 #[.int .i64 y.k, .int .i64 y.cl, .int .i64 y.sq, .int .i64 y.tm, .int .i64 y.s, .int .i64 y.a, .int .i64 y.p, .int .i64 y.q, .int .i64 y.i]
  fa : RdB w' A2 k2 bs
  fb : RdB w' A3 k3 bs
  g : GoodG w'
  u : Upd [] [] w0 w'
section
variable {w0 w' w2 : World} {g0 g4 g6 : Nat} {c y : Cm} {A2 A3 : Option Addr} {k2 k3 : Nat} {bs : List UInt8}
theorem Kp.upd (h : Kp w0 g0 g4 g6 c y A2 k2 A3 k3 bs w') (hu : Upd [] [] w' w2) : Kp w0 g0 g4 g6 c y A2 k2 A3 k3 bs w2 :=
  ⟨h.fx.upd hu (by simp), h.fy.upd hu (by simp), h.fz.upd hu (by simp), h.fa.upd hu (by simp), h.fb.upd hu (by simp), h.g.upd hu (by simp), h.u.trans hu⟩
theorem Kp.all (h : Kp w0 g0 g4 g6 c y A2 k2 A3 k3 bs w') (c2 c3 : Nat) : w'.cell? ⟨g0, 0, none⟩ = some (.int .i64 c.k) ∧ w'.cell? ⟨g0, 1, none⟩ = some (.int .i64 c.cl) ∧ w'.cell? ⟨g0, 2, none⟩ = some (.int .i64 c.sq) ∧ w'.cell? ⟨g0, 3, none⟩ = some (.int .i64 c.tm) ∧ w'.cell? ⟨g0, 4, none⟩ = some (.int .i64 c.s) ∧ w'.cell? ⟨g0, 5, none⟩ = some (.int .i64 c.a) ∧ w'.cell? ⟨g0, 6, none⟩ = some (.int .i64 c.p) ∧ w'.cell? ⟨g0, 7, none⟩ = some (.int .i64 c.q) ∧ w'.cell? ⟨g0, 8, none⟩ = some (.int .i64 c.i) ∧ w'.cell? ⟨g4, 0, none⟩ = some (.int .i64 y.k) ∧ w'.cell? ⟨g4, 1, none⟩ = some (.int .i64 y.cl) ∧ w'.cell? ⟨g4, 2, none⟩ = some (.int .i64 y.sq) ∧ w'.cell? ⟨g4, 3, none⟩ = some (.int .i64 y.tm) ∧ w'.cell? ⟨g4, 4, none⟩ = some (.int .i64 y.s) ∧ w'.cell? ⟨g4, 5, none⟩ = some (.int .i64 y.a) ∧ w'.cell? ⟨g4, 6, none⟩ = some (.int .i64 y.p) ∧ w'.cell? ⟨g4, 7, none⟩ = some (.int .i64 y.q) ∧ w'.cell? ⟨g4, 8, none⟩ = some (.int .i64 y.i) ∧ w'.cell? ⟨g6, 0, none⟩ = some (.int .i64 y.k) ∧ w'.cell? ⟨g6, 1, none⟩ = some (.int .i64 y.cl) ∧ w'.cell? ⟨g6, 2, none⟩ = some (.int .i64 y.sq) ∧ w'.cell? ⟨g6, 3, none⟩ = some (.int .i64 y.tm) ∧ w'.cell? ⟨g6, 4, none⟩ = some (.int .i64 y.s) ∧ w'.cell? ⟨g6, 5, none⟩ = some (.int .i64 y.a) ∧ w'.cell? ⟨g6, 6, none⟩ = some (.int .i64 y.p) ∧ w'.cell? ⟨g6, 7, none⟩ = some (.int .i64 y.q) ∧ w'.cell? ⟨g6, 8, none⟩ = some (.int .i64 y.i) ∧ (convert 24 9 (.slice A2 k2 c2)).run Tryd.prog w' = .ok (.string ⟨bs.toArray⟩) w' ∧ (convert 24 9 (.slice A3 k3 c3)).run Tryd.prog w' = .ok (.string ⟨bs.toArray⟩) w' := by
  obtain ⟨⟨x0, x1, x2, x3, x4, x5, x6, x7, x8⟩, -⟩ := h.fx.c9
  obtain ⟨⟨y0, y1, y2, y3, y4, y5, y6, y7, y8⟩, -⟩ := h.fy.c9
  obtain ⟨⟨z0, z1, z2, z3, z4, z5, z6, z7, z8⟩, -⟩ := h.fz.c9
  exact ⟨x0, x1, x2, x3, x4, x5, x6, x7, x8, y0, y1, y2, y3, y4, y5, y6, y7, y8, z0, z1, z2, z3, z4, z5, z6, z7, z8, strOf h.fa c2, strOf h.fb c3⟩
end

set_option maxRecDepth 100000 in
set_option maxHeartbeats 16000000 in
theorem cmdCodes_of (HM : ∀ (c : Cm) (w : World), Calls Tryd.prog 12 #[c.val] w fun e w' => e = .returned (.int .i64 c.err) ∧ Upd [] [] w w')
    (w : World) (hG : GoodG w) (c : Cm) (hI : c.may = true → c.I) (B : Option Addr) (m d : Nat) (b : List UInt8) (hB : RdB w B m b) (hb : b.length ≤ 140737488355328) :
    Calls Tryd.prog 3 #[c.val, .slice B m d] w fun e w' => e = .returned (.bool true) ∧ Upd [] [] w w' := by
  obtain ⟨bs, o1, C1, C2⟩ := both_enc5 HM c hI
  have HD : Hid (∀ w0, RdB w0 B m b → Calls Tryd.prog 10 #[.slice B m d] w0 fun e w' => R5 b e ∧ Upd [] [] w0 w') := fun w0 h => ref05Decode HM w0 B m d b h hb
  have HE : Hid (∀ w0, RdB w0 B m b → Calls Tryd.prog 9 #[.slice B m d] w0 fun e w' => DecTold b e ∧ Upd [] [] w0 w') := fun w0 h => cmdDecode w0 B m d b h hb
  have HMc := Lib.hid (HM c)
  have HCc := Lib.hid (cmdMay c)
  have HV : Hid (∀ y : Cm, y.val = .agg #[.int .i64 y.k, .int .i64 y.cl, .int .i64 y.sq, .int .i64 y.tm, .int .i64 y.s, .int .i64 y.a, .int .i64 y.p, .int .i64 y.q, .int .i64 y.i]) := fun _ => rfl
  obtain ⟨ce, hce⟩ : ∃ ce, c.err = ce := ⟨_, rfl⟩
  rw [hce] at HMc HCc
  rw [HV.out c] at C1 C2 HMc HCc ⊢
  clear HM hb hI hce
  go_enter Tryd.func3, Tryd.ntmps3
  repeat' ((fail_if_success (with_reducible refine stop_append rfl ?_)); (fail_if_success (with_reducible refine stop_copy rfl ?_)); first | go_values | go_skip | go_guarded | go_step | go_upon | (simp only []; go_at_K))
  ((with_reducible refine (awake05 _ (hG.alloc _)).mono ?_); rintro e w1 ⟨rfl, hu1⟩)
  have U1 := ((Upd.refl [] w).alloc (.cells #[.int .i64 c.k, .int .i64 c.cl, .int .i64 c.sq, .int .i64 c.tm, .int .i64 c.s, .int .i64 c.a, .int .i64 c.p, .int .i64 c.q, .int .i64 c.i] 23)).trans hu1
  have hX := (Blk.new w 23 #[.int .i64 c.k, .int .i64 c.cl, .int .i64 c.sq, .int .i64 c.tm, .int .i64 c.s, .int .i64 c.a, .int .i64 c.p, .int .i64 c.q, .int .i64 c.i]).upd hu1 (by simp)
  have hB1 := hB.upd U1 (by simp)
  have hG1 := hG.upd U1 (by simp)
  obtain ⟨⟨q0, q1, q2, q3, q4, q5, q6, q7, q8⟩, -⟩ := hX.c9
  clear hu1 hB hG
  repeat' ((fail_if_success (with_reducible refine stop_append rfl ?_)); (fail_if_success (with_reducible refine stop_copy rfl ?_)); first | go_values | go_skip | go_guarded | go_step | go_upon | (simp only []; go_at_K))
  ((with_reducible refine (C1 _).mono ?_); rintro e w2 ⟨A2, k2, c2, rfl, ho2, hu2⟩)
  have hX2 := hX.upd hu2 (by simp)
  have hB2 := hB1.upd hu2 (by simp)
  have hG2 := hG1.upd hu2 (by simp)
  have U2 := U1.trans hu2
  clear q0 q1 q2 q3 q4 q5 q6 q7 q8 C1 hX hB1 hG1 U1 hu2
  obtain ⟨⟨q0, q1, q2, q3, q4, q5, q6, q7, q8⟩, -⟩ := hX2.c9
  repeat' ((fail_if_success (with_reducible refine stop_append rfl ?_)); (fail_if_success (with_reducible refine stop_copy rfl ?_)); first | go_values | go_skip | go_guarded | go_step | go_upon | (simp only []; go_at_K))
  ((with_reducible refine (C2 _).mono ?_); rintro e w3 ⟨A3, k3, c3, rfl, ho3, hu3⟩)
  have hX3 := hX2.upd hu3 (by simp)
  have hB3 := hB2.upd hu3 (by simp)
  have hG3 := hG2.upd hu3 (by simp)
  have ho23 := ho2.upd hu3 (by simp)
  have U3 := U2.trans hu3
  clear q0 q1 q2 q3 q4 q5 q6 q7 q8 C2 hX2 hB2 hG2 U2 hu3 ho2
  repeat' ((fail_if_success (with_reducible refine stop_append rfl ?_)); (fail_if_success (with_reducible refine stop_copy rfl ?_)); first | go_values | go_skip | go_guarded | go_step | go_upon | (simp only []; go_at_K))
  ((with_reducible refine (HE.out w3 hB3).mono ?_); rintro e w4 ⟨hD, hu4⟩)
  obtain rfl := dec5_form hD
  rw [HV.out (cmOf b)]
  generalize hy : cmOf b = y at *
  generalize ho : er5 b = o at *
  have hYb := Blk.new w4 23 #[.int .i64 y.k, .int .i64 y.cl, .int .i64 y.sq, .int .i64 y.tm, .int .i64 y.s, .int .i64 y.a, .int .i64 y.p, .int .i64 y.q, .int .i64 y.i]
  have U4 : Upd [] [] w3 (w4.alloc (.cells #[.int .i64 y.k, .int .i64 y.cl, .int .i64 y.sq, .int .i64 y.tm, .int .i64 y.s, .int .i64 y.a, .int .i64 y.p, .int .i64 y.q, .int .i64 y.i] 23)) := hu4.alloc _
  have hX4 := hX3.upd U4 (by simp)
  have hB4 := hB3.upd U4 (by simp)
  have hG4 := hG3.upd U4 (by simp)
  have ho24 := ho23.upd U4 (by simp)
  have ho34 := ho3.upd U4 (by simp)
  have V4 := U3.trans U4
  clear hX3 hB3 hG3 ho23 ho3 U3 hu4 hD U4
  repeat' ((fail_if_success (with_reducible refine stop_append rfl ?_)); (fail_if_success (with_reducible refine stop_copy rfl ?_)); first | go_values | go_skip | go_guarded | go_step | go_upon | (simp only []; go_at_K))
  generalize w4.alloc (.cells #[.int .i64 y.k, .int .i64 y.cl, .int .i64 y.sq, .int .i64 y.tm, .int .i64 y.s, .int .i64 y.a, .int .i64 y.p, .int .i64 y.q, .int .i64 y.i] 23) = w5 at *
  generalize w4.heap.size = g4 at *
  ((with_reducible refine (HD.out w5 hB4).mono ?_); rintro e w6 ⟨hD2, hu6⟩)
  obtain rfl := r5_form hD2
  rw [hy, ho, HV.out y]
  have hZb := Blk.new w6 23 #[.int .i64 y.k, .int .i64 y.cl, .int .i64 y.sq, .int .i64 y.tm, .int .i64 y.s, .int .i64 y.a, .int .i64 y.p, .int .i64 y.q, .int .i64 y.i]
  have U6 : Upd [] [] w5 (w6.alloc (.cells #[.int .i64 y.k, .int .i64 y.cl, .int .i64 y.sq, .int .i64 y.tm, .int .i64 y.s, .int .i64 y.a, .int .i64 y.p, .int .i64 y.q, .int .i64 y.i] 23)) := hu6.alloc _
  have hX6 := hX4.upd U6 (by simp)
  have hG6 := hG4.upd U6 (by simp)
  have ho26 := ho24.upd U6 (by simp)
  have ho36 := ho34.upd U6 (by simp)
  have hY6 := hYb.upd U6 (by simp)
  have V6 := V4.trans U6
  clear hB4 hG4 ho24 ho34 V4 hu6 hD2 U6 hYb hX4
  repeat' ((fail_if_success (with_reducible refine stop_append rfl ?_)); (fail_if_success (with_reducible refine stop_copy rfl ?_)); first | go_values | go_skip | go_guarded | go_step | go_upon | (simp only []; go_at_K))
  have K0 : Kp w w.heap.size g4 w6.heap.size c y A2 k2 A3 k3 bs (w6.alloc (.cells #[.int .i64 y.k, .int .i64 y.cl, .int .i64 y.sq, .int .i64 y.tm, .int .i64 y.s, .int .i64 y.a, .int .i64 y.p, .int .i64 y.q, .int .i64 y.i] 23)) := ⟨hX6, hY6, hZb, ho26, ho36, hG6, V6⟩
  have eq : ∀ w, (binOp .eql 23 (.agg #[.int .i64 y.k, .int .i64 y.cl, .int .i64 y.sq, .int .i64 y.tm, .int .i64 y.s, .int .i64 y.a, .int .i64 y.p, .int .i64 y.q, .int .i64 y.i]) (.agg #[.int .i64 y.k, .int .i64 y.cl, .int .i64 y.sq, .int .i64 y.tm, .int .i64 y.s, .int .i64 y.a, .int .i64 y.p, .int .i64 y.q, .int .i64 y.i])).run Tryd.prog w = .ok (.bool true) w := fun w => (eqCmd _ _ _ _ _ _ _ _ _ _ _ _ _ _ _ _ _ _ w).trans (by simp)
  clear hX6 hY6 hZb ho26 ho36 hG6 V6 HD HE HV
  generalize w6.alloc (.cells #[.int .i64 y.k, .int .i64 y.cl, .int .i64 y.sq, .int .i64 y.tm, .int .i64 y.s, .int .i64 y.a, .int .i64 y.p, .int .i64 y.q, .int .i64 y.i] 23) = w7 at *
  generalize w6.heap.size = g6 at *
  generalize w.heap.size = g0 at *
  have K1 := K0.upd (Upd.refl [] w7).drew
  clear K0
  go_region_held3 (fun w' => w'.cell? ⟨g0, 0, none⟩ = some (.int .i64 c.k) ∧ w'.cell? ⟨g0, 1, none⟩ = some (.int .i64 c.cl) ∧ w'.cell? ⟨g0, 2, none⟩ = some (.int .i64 c.sq) ∧ w'.cell? ⟨g0, 3, none⟩ = some (.int .i64 c.tm) ∧ w'.cell? ⟨g0, 4, none⟩ = some (.int .i64 c.s) ∧ w'.cell? ⟨g0, 5, none⟩ = some (.int .i64 c.a) ∧ w'.cell? ⟨g0, 6, none⟩ = some (.int .i64 c.p) ∧ w'.cell? ⟨g0, 7, none⟩ = some (.int .i64 c.q) ∧ w'.cell? ⟨g0, 8, none⟩ = some (.int .i64 c.i) ∧ w'.cell? ⟨g4, 0, none⟩ = some (.int .i64 y.k) ∧ w'.cell? ⟨g4, 1, none⟩ = some (.int .i64 y.cl) ∧ w'.cell? ⟨g4, 2, none⟩ = some (.int .i64 y.sq) ∧ w'.cell? ⟨g4, 3, none⟩ = some (.int .i64 y.tm) ∧ w'.cell? ⟨g4, 4, none⟩ = some (.int .i64 y.s) ∧ w'.cell? ⟨g4, 5, none⟩ = some (.int .i64 y.a) ∧ w'.cell? ⟨g4, 6, none⟩ = some (.int .i64 y.p) ∧ w'.cell? ⟨g4, 7, none⟩ = some (.int .i64 y.q) ∧ w'.cell? ⟨g4, 8, none⟩ = some (.int .i64 y.i) ∧ w'.cell? ⟨g6, 0, none⟩ = some (.int .i64 y.k) ∧ w'.cell? ⟨g6, 1, none⟩ = some (.int .i64 y.cl) ∧ w'.cell? ⟨g6, 2, none⟩ = some (.int .i64 y.sq) ∧ w'.cell? ⟨g6, 3, none⟩ = some (.int .i64 y.tm) ∧ w'.cell? ⟨g6, 4, none⟩ = some (.int .i64 y.s) ∧ w'.cell? ⟨g6, 5, none⟩ = some (.int .i64 y.a) ∧ w'.cell? ⟨g6, 6, none⟩ = some (.int .i64 y.p) ∧ w'.cell? ⟨g6, 7, none⟩ = some (.int .i64 y.q) ∧ w'.cell? ⟨g6, 8, none⟩ = some (.int .i64 y.i) ∧ (convert 24 9 (.slice A2 k2 c2)).run Tryd.prog w' = .ok (.string ⟨bs.toArray⟩) w' ∧ (convert 24 9 (.slice A3 k3 c3)).run Tryd.prog w' = .ok (.string ⟨bs.toArray⟩) w') (exact Kp.all (by assumption) c2 c3)
    (first
      | (go_at_call 11; (with_reducible refine (HCc.out _).mono ?_); rintro e w8 ⟨rfl, hu8⟩; have K2 := Kp.upd (by assumption) hu8)
      | (go_at_call 12; (with_reducible refine (HMc.out _).mono ?_); rintro e w9 ⟨rfl, hu9⟩; have K3 := Kp.upd (by assumption) hu9)
      | (go_at_call 13; (with_reducible refine (codeAny o1 _ (Kp.g (by assumption))).mono ?_); rintro e w10 ⟨rfl, hu10⟩; have K4 := Kp.upd (by assumption) hu10)
      | (go_at_call 13; (with_reducible refine (codeAny o _ (Kp.g (by assumption))).mono ?_); rintro e w11 ⟨rfl, hu11⟩; have K5 := Kp.upd (by assumption) hu11))
  all_goals (repeat' ((fail_if_success (with_reducible refine stop_append rfl ?_)); (fail_if_success (with_reducible refine stop_copy rfl ?_)); first | go_values | go_skip | go_guarded | go_step | go_upon | (simp only []; go_at_K)))
  all_goals go_ret
  all_goals exact ⟨rfl, K5.u⟩
end Go.Proofs.YtmnoahglajilhaaDoor
