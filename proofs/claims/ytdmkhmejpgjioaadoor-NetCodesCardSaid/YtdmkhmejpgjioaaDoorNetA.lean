/- Messages compared; a net awake. -/
import Derived.Test.YtdmkhmejpgjioaaDoorNetT
set_option linter.all false
namespace Go.Proofs.YtdmkhmejpgjioaaDoor
open Go.RowKit Agio

set_option maxRecDepth 100000 in
set_option maxHeartbeats 4000000 in
/-- Equal messages. -/
theorem netOne (k f t s br bs hr hs : Int) (so : Bool) (A : Option Addr) (n c : Nat) (A2 : Option Addr) (n2 c2 : Nat) (b : List UInt8) (w : World) (h1 : RdB w A n b) (h2 : RdB w A2 n2 b) :
    Calls Tryd.prog 25 #[.agg #[.int .i64 k, .int .i64 f, .int .i64 t, .int .i64 s, .int .i64 br, .int .i64 bs, .int .i64 hr, .int .i64 hs, .bool so, .slice A n c], .agg #[.int .i64 k, .int .i64 f, .int .i64 t, .int .i64 s, .int .i64 br, .int .i64 bs, .int .i64 hr, .int .i64 hs, .bool so, .slice A2 n2 c2]] w fun e w' => e = .returned (.bool true) ∧ Upd [] [] w w' := by
  have eq := fun a b w => (eqBal a b a b w).trans (by rw [show ((a == a) && (b == b)) = true by simp])
  have s1 := fun o o' => strOf ((h1.alloc o).alloc o') c
  have s2 := fun o o' => strOf ((h2.alloc o).alloc o') c2
  have hU := fun o o' => ((Upd.refl [] w).alloc o).alloc o'
  clear h1 h2
  go_enter Tryd.func25, Tryd.ntmps25
  repeat' ((fail_if_success (with_reducible refine stop_append rfl ?_)); (fail_if_success (with_reducible refine stop_copy rfl ?_)); first | go_values | go_skip | go_guarded | go_step | go_upon | (simp only []; go_at_K))
  go_ret
  exact ⟨rfl, hU _ _⟩
/-- The message of awake, and that its bytes are read as it. -/
def mv0 : Mv := ⟨8, 0, 1, 9, 0, 0, 0, 0, false, none, 0, 0, []⟩
theorem mv0_may : mv0.ms.May := ⟨by decide, by decide, by decide, by decide, by decide, by decide, by decide, by decide, by decide, .inr ⟨by decide, rfl⟩⟩
/-- What was encoded is decoded as it was. -/
theorem nDec_same {x : Mv} (hm : x.ms.May) {w : World} {e : Ending} (h : NDec x.ms.bytes w e) :
    ∃ A n c, OwnB 5 w A n c x.b ∧ e = .returned (.tuple #[.agg #[.int .i64 x.k, .int .i64 x.f, .int .i64 x.t, .int .i64 x.s, .int .i64 x.br, .int .i64 x.bs, .int .i64 x.hr, .int .i64 x.hs, .bool x.so, .slice A n c], .nilIface]) := by
  have hW : Whole x.ms.bytes := whole_put (by have := hm.ilen; omega)
  have hd : (x.ms.bytes.drop 8) = x.ms.inside := put_inj (hW.put.symm.trans rfl)
  have hI : decI (x.ms.bytes.drop 8) = some x.ms := decI_some ⟨hm, hd.symm⟩
  rcases h with ⟨h1, _⟩ | ⟨_, h2, _⟩ | ⟨y, _, h2, ho, he⟩
  · exact absurd hW h1
  · rw [hI] at h2; cases h2
  · rw [hI] at h2
    injection h2 with h2
    simp only [Mv.ms, Ms.mk.injEq] at h2
    obtain ⟨e1, e2, e3, e4, e5, e6, e7, e8, e9, e10⟩ := h2
    rw [e1, e2, e3, e4, e5, e6, e7, e8, e9]
    rw [← e10] at ho
    exact ⟨y.A, y.n, y.c, ho, he⟩

set_option maxRecDepth 100000 in
set_option maxHeartbeats 4000000 in
theorem awake13 (w : World) : Calls Tryd.prog 20 #[] w fun e w' => e = .returned (.bool true) ∧ Upd [] [] w w' := by
  have hbl : mv0.ms.bytes.length ≤ 2208 := mv0_may.len
  go_enter Tryd.func20, Tryd.ntmps20
  repeat' ((fail_if_success (with_reducible refine stop_append rfl ?_)); (fail_if_success (with_reducible refine stop_copy rfl ?_)); first | go_values | go_skip | go_guarded | go_step | go_upon | (simp only []; go_at_K))
  ((with_reducible refine (netNew _).mono ?_); rintro e w1 ⟨g, rfl, h1, hu1⟩)
  repeat' ((fail_if_success (with_reducible refine stop_append rfl ?_)); (fail_if_success (with_reducible refine stop_copy rfl ?_)); first | go_values | go_skip | go_guarded | go_step | go_upon | (simp only []; go_at_K))
  have C := netEncode mv0 w1 (RdB.nil _ _) mv0_may
  rw [Mv.val_eq] at C
  simp only [mv0] at C
  ((with_reducible refine C.mono ?_); rintro e w2 ⟨B, m, d, rfl, ho2, hu2⟩)
  clear C
  have h2 := h1.upd0 hu2
  have U2 := hu1.trans (hu2.up _)
  have hB2 : RdB w2 B m mv0.ms.bytes := ho2.rd
  clear h1 hu1 hu2 ho2
  repeat' ((fail_if_success (with_reducible refine stop_append rfl ?_)); (fail_if_success (with_reducible refine stop_copy rfl ?_)); first | go_values | go_skip | go_guarded | go_step | go_upon | (simp only []; go_at_K))
  ((with_reducible refine (netSend w2 g none 0 0 [] h2 1 B m d mv0.ms.bytes hB2 (Nat.le_trans hbl (by decide)) (by decide) (by decide)).mono ?_); rintro e w3 ⟨A3, n3, c3, x, rfl, hx1, hx2, h3, hu3⟩)
  simp only [List.nil_append] at h3 hu3
  have U3 := U2.trans hu3
  clear h2 hu3 U2 hB2
  repeat' ((fail_if_success (with_reducible refine stop_append rfl ?_)); (fail_if_success (with_reducible refine stop_copy rfl ?_)); first | go_values | go_skip | go_guarded | go_step | go_upon | (simp only []; go_at_K))
  have C := netDouble w3 g A3 n3 c3 [x] h3 0 (by simp) (by simp) (by simp only [List.getElem_cons_zero, hx2]; omega)
  rw [show ((0 : Nat) : Int) = 0 from rfl] at C
  ((with_reducible refine C.mono ?_); rintro e w4 ⟨A4, n4, c4, y, rfl, hy1, hy2, h4, hu4⟩)
  simp only [List.getElem_cons_zero] at hy1 hy2
  have U4 := U3.trans hu4
  clear h3 hu4 U3
  repeat' ((fail_if_success (with_reducible refine stop_append rfl ?_)); (fail_if_success (with_reducible refine stop_copy rfl ?_)); first | go_values | go_skip | go_guarded | go_step | go_upon | (simp only []; go_at_K))
  clear C
  have C := netTake w4 g A4 n4 c4 _ h4 0 (by simp) x rfl
  rw [show ((0 : Nat) : Int) = 0 from rfl] at C
  ((with_reducible refine C.mono ?_); rintro e w5 ⟨A5, n5, c5, rfl, h5, hox, -, hu5⟩)
  simp only [List.singleton_append, List.eraseIdx_cons_zero] at h5 hu5
  have U5 := U4.trans hu5
  clear h4 C hu5 U4
  obtain ⟨xt, xA, xn, xc, xb⟩ := x
  simp only at hx1 hx2 hox
  subst hx1 hx2
  repeat' ((fail_if_success (with_reducible refine stop_append rfl ?_)); (fail_if_success (with_reducible refine stop_copy rfl ?_)); first | go_values | go_skip | go_guarded | go_step | go_upon | (simp only []; go_at_K))
  ((with_reducible refine (netDecode w5 xA xn xc mv0.ms.bytes hox.rd hox.own.cap.1 hox.own.cap.2 (by omega)).mono ?_); rintro e w6 ⟨hN, hu6⟩)
  have h6 := h5.upd0 hu6
  have U6 := (U5.trans (hu6.up _)).gives (b' := []) (by simp)
  obtain ⟨qA, qn, qc, -, he⟩ := nDec_same mv0_may hN
  simp only [mv0] at he
  subst he
  clear hN hu6 h5 U5 hox hy1 hy2
  have C := netLen _ g A5 n5 c5 [y] (h6.upd0 ((Upd.refl [] w6).alloc (.cells #[.int .i64 8, .int .i64 0, .int .i64 1, .int .i64 9, .int .i64 0, .int .i64 0, .int .i64 0, .int .i64 0, .bool false, .slice qA qn qc] 56)))
  rw [show (([y] : List Pk).length : Int) = 1 from rfl] at C
  repeat' ((fail_if_success (with_reducible refine stop_append rfl ?_)); (fail_if_success (with_reducible refine stop_copy rfl ?_)); first | go_values | go_skip | go_guarded | go_step | go_upon | (simp only []; go_at_K))
  ((with_reducible refine C.mono ?_); rintro e w7 ⟨rfl, rfl⟩)
  repeat' ((fail_if_success (with_reducible refine stop_append rfl ?_)); (fail_if_success (with_reducible refine stop_copy rfl ?_)); first | go_values | go_skip | go_guarded | go_step | go_upon | (simp only []; go_at_K))
  go_ret
  exact ⟨rfl, U6.alloc _⟩
end Go.Proofs.YtdmkhmejpgjioaaDoor
