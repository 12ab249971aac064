/- (agio/cmd).Decode. -/
import Derived.Test.YtmnoahglajilhaaDoorCmd5
namespace Go.Proofs.YtmnoahglajilhaaDoor
open Go.RowKit Agio

def Cm.of (k cl : Nat) (l : List Int) : Cm := ⟨k, cl, l.getD 0 0, l.getD 1 0, l.getD 2 0, l.getD 3 0, l.getD 4 0, l.getD 5 0, l.getD 6 0⟩
/-- What is decoded: an error, or a command. -/
def cmdDec (b : List UInt8) : Er ⊕ Cm :=
  match cmdRead b with
  | .inl e => .inl (.cf (.wf e.1 e.2))
  | .inr r => if (Cm.of r.1 r.2.1 r.2.2).may then .inr (Cm.of r.1 r.2.1 r.2.2) else .inl (.cf (.no 1))
def Cm.zero : Cm := ⟨0, 0, 0, 0, 0, 0, 0, 0, 0⟩
/-- What Decode tells. -/
def DecTold (b : List UInt8) (e : Ending) : Prop :=
  (∃ er, cmdDec b = .inl er ∧ e = .returned (.tuple #[Cm.zero.val, er.val])) ∨ ∃ c, cmdDec b = .inr c ∧ e = .returned (.tuple #[c.val, .nilIface])

theorem nine {W w : World} {H : Nat} {t : TypeId} {x0 x1 x2 x3 x4 x5 x6 x7 x8 : Value} (v0 v1 v2 v3 v4 v5 v6 v7 v8 : Value) (hH : Blk W H t #[x0, x1, x2, x3, x4, x5, x6, x7, x8]) (U : Upd [] [] w W) (hHn : w.heap.size ≤ H) :
    Blk (((((((((W.setCell ⟨H, 0, none⟩ v0).setCell ⟨H, 1, none⟩ v1).setCell ⟨H, 2, none⟩ v2).setCell ⟨H, 3, none⟩ v3).setCell ⟨H, 4, none⟩ v4).setCell ⟨H, 5, none⟩ v5).setCell ⟨H, 6, none⟩ v6).setCell ⟨H, 7, none⟩ v7).setCell ⟨H, 8, none⟩ v8) H t #[v0, v1, v2, v3, v4, v5, v6, v7, v8] ∧ Upd [] [] w (((((((((W.setCell ⟨H, 0, none⟩ v0).setCell ⟨H, 1, none⟩ v1).setCell ⟨H, 2, none⟩ v2).setCell ⟨H, 3, none⟩ v3).setCell ⟨H, 4, none⟩ v4).setCell ⟨H, 5, none⟩ v5).setCell ⟨H, 6, none⟩ v6).setCell ⟨H, 7, none⟩ v7).setCell ⟨H, 8, none⟩ v8) := by
  constructor
  · have h := ((((((((hH.set_ 0 v0).set_ 1 v1).set_ 2 v2).set_ 3 v3).set_ 4 v4).set_ 5 v5).set_ 6 v6).set_ 7 v7).set_ 8 v8
    simpa using h
  · exact ((((((((U.setCell (.inr hHn) _).setCell (.inr hHn) _).setCell (.inr hHn) _).setCell (.inr hHn) _).setCell (.inr hHn) _).setCell (.inr hHn) _).setCell (.inr hHn) _).setCell (.inr hHn) _).setCell (.inr hHn) _

set_option maxRecDepth 100000 in
set_option maxHeartbeats 4000000 in
theorem cmdDecode (w : World) (B : Option Addr) (m d : Nat) (b : List UInt8) (hB : RdB w B m b) (hb : b.length ≤ 140737488355328) :
    Calls Tryd.prog 9 #[.slice B m d] w fun e w' => DecTold b e ∧ Upd [] [] w w' := by
  have C := cmdRead_any (w.alloc (.cells #[.int .i64 0, .int .i64 0, .int .i64 0, .int .i64 0, .int .i64 0, .int .i64 0, .int .i64 0, .int .i64 0, .int .i64 0] 23)) B m d b (hB.alloc _) hb
  have hR0 := Blk.new w 23 #[.int .i64 0, .int .i64 0, .int .i64 0, .int .i64 0, .int .i64 0, .int .i64 0, .int .i64 0, .int .i64 0, .int .i64 0]
  have U0 : Upd [] [] w (w.alloc (.cells #[.int .i64 0, .int .i64 0, .int .i64 0, .int .i64 0, .int .i64 0, .int .i64 0, .int .i64 0, .int .i64 0, .int .i64 0] 23)) := (Upd.refl _ _).alloc _
  go_enter Tryd.func9, Tryd.ntmps9
  repeat' ((fail_if_success (with_reducible refine stop_append rfl ?_)); (fail_if_success (with_reducible refine stop_copy rfl ?_)); first | go_values | go_skip | go_guarded | go_step | go_upon | (simp only []; go_at_K))
  refine C.mono ?_
  rintro e w1 ⟨hT, hu1⟩
  have hR1 := hR0.upd hu1 (by simp)
  have U1 := U0.trans hu1
  have hlt : w.heap.size < w1.heap.size := hR1.lt
  clear C hR0 U0 hu1
  rcases hT with ⟨bad, a, x0, x1, y0, y1, y2, y3, y4, y5, y6, hcr, hz, rfl⟩ | ⟨x0, x1, y0, y1, y2, y3, y4, y5, y6, hcr, rfl⟩
  · have HR : Hid (DecTold b (.returned (.tuple #[.agg #[.int .i64 0, .int .i64 0, .int .i64 0, .int .i64 0, .int .i64 0, .int .i64 0, .int .i64 0, .int .i64 0, .int .i64 0], .iface 67 (.agg #[.iface 138 (.agg #[.int .i64 (bad : Int), .int .i64 (a : Int)])])]))) := .inl ⟨.cf (.wf bad a), by unfold cmdDec; rw [hcr], rfl⟩
    rw [flt_pos hz]
    clear hcr hz
    have c0 := hR1.cell 0
    have c1 := hR1.cell 1
    have c2 := hR1.cell 2
    have c3 := hR1.cell 3
    have c4 := hR1.cell 4
    have c5 := hR1.cell 5
    have c6 := hR1.cell 6
    have c7 := hR1.cell 7
    have c8 := hR1.cell 8
    simp at c0 c1 c2 c3 c4 c5 c6 c7 c8
    have f0 := hR1.frozen 0
    have f1 := hR1.frozen 1
    have f2 := hR1.frozen 2
    have f3 := hR1.frozen 3
    have f4 := hR1.frozen 4
    have f5 := hR1.frozen 5
    have f6 := hR1.frozen 6
    have f7 := hR1.frozen 7
    have f8 := hR1.frozen 8
    repeat' ((fail_if_success (with_reducible refine stop_append rfl ?_)); (fail_if_success (with_reducible refine stop_copy rfl ?_)); first | go_values | go_skip | go_guarded | go_step | go_upon | (simp only []; go_at_K))
    have N := nine (.int .i64 0) (.int .i64 0) (.int .i64 0) (.int .i64 0) (.int .i64 0) (.int .i64 0) (.int .i64 0) (.int .i64 0) (.int .i64 0) (hR1) (U1) (by omega)
    generalize World.setCell _ ⟨w.heap.size, 8, none⟩ _ = W9 at N ⊢
    obtain ⟨n1, n2⟩ := N
    have hsz := n1.lt
    have hsz2 : w.heap.size < W9.heap.size + 1 := by omega
    clear c0 c1 c2 c3 c4 c5 c6 c7 c8
    have c0 := n1.cell 0
    have c1 := n1.cell 1
    have c2 := n1.cell 2
    have c3 := n1.cell 3
    have c4 := n1.cell 4
    have c5 := n1.cell 5
    have c6 := n1.cell 6
    have c7 := n1.cell 7
    have c8 := n1.cell 8
    simp at c0 c1 c2 c3 c4 c5 c6 c7 c8
    repeat' ((fail_if_success (with_reducible refine stop_append rfl ?_)); (fail_if_success (with_reducible refine stop_copy rfl ?_)); first | go_values | go_skip | go_guarded | go_step | go_upon | (simp only []; go_at_K))
    refine bodyPost_ret (v := .tuple #[.agg #[.int .i64 0, .int .i64 0, .int .i64 0, .int .i64 0, .int .i64 0, .int .i64 0, .int .i64 0, .int .i64 0, .int .i64 0], .iface 67 (.agg #[.iface 138 (.agg #[.int .i64 (bad : Int), .int .i64 (a : Int)])])]) (by simp [results, Tryd.results9, go_sem, hsz, hsz2, c0, c1, c2, c3, c4, c5, c6, c7, c8]) rfl ⟨HR.out, (n2.alloc _).alloc _⟩
  · have HD : Hid (cmdDec b = if (Cm.of x0 x1 [y0, y1, y2, y3, y4, y5, y6]).may then .inr (Cm.of x0 x1 [y0, y1, y2, y3, y4, y5, y6]) else .inl (.cf (.no 1))) := by unfold cmdDec Hid; rw [hcr]
    clear hcr
    have M := cmdMay (Cm.of x0 x1 [y0, y1, y2, y3, y4, y5, y6])
    have hv : (Cm.of x0 x1 [y0, y1, y2, y3, y4, y5, y6]).val = .agg #[.int .i64 (x0 : Int), .int .i64 (x1 : Int), .int .i64 y0, .int .i64 y1, .int .i64 y2, .int .i64 y3, .int .i64 y4, .int .i64 y5, .int .i64 y6] := rfl
    rw [hv] at M
    have HV := Lib.hid hv; clear hv
    generalize Cm.of x0 x1 [y0, y1, y2, y3, y4, y5, y6] = cm at *
    have c0 := hR1.cell 0
    have c1 := hR1.cell 1
    have c2 := hR1.cell 2
    have c3 := hR1.cell 3
    have c4 := hR1.cell 4
    have c5 := hR1.cell 5
    have c6 := hR1.cell 6
    have c7 := hR1.cell 7
    have c8 := hR1.cell 8
    simp at c0 c1 c2 c3 c4 c5 c6 c7 c8
    have f0 := hR1.frozen 0
    have f1 := hR1.frozen 1
    have f2 := hR1.frozen 2
    have f3 := hR1.frozen 3
    have f4 := hR1.frozen 4
    have f5 := hR1.frozen 5
    have f6 := hR1.frozen 6
    have f7 := hR1.frozen 7
    have f8 := hR1.frozen 8
    cases hm : cm.may
    · have HR : Hid (DecTold b (.returned (.tuple #[.agg #[.int .i64 0, .int .i64 0, .int .i64 0, .int .i64 0, .int .i64 0, .int .i64 0, .int .i64 0, .int .i64 0, .int .i64 0], .iface 67 (.agg #[.iface 36 (.int .i64 1)])]))) := .inl ⟨.cf (.no 1), by rw [HD.out, hm]; rfl, rfl⟩
      have E : cm.err = 1 := by simp [Cm.err, hm]
      rw [E] at M
      clear hm E HD HV
      repeat' ((fail_if_success (with_reducible refine stop_append rfl ?_)); (fail_if_success (with_reducible refine stop_copy rfl ?_)); first | go_values | go_skip | go_guarded | go_step | go_upon | (simp only []; go_at_K))
      refine (M _).mono ?_
      rintro e w2 ⟨rfl, hu2⟩
      have hR2 := (((hR1.alloc _).alloc _).alloc _).upd hu2 (by simp)
      have U2 := (((U1.alloc _).alloc _).alloc _).trans hu2
      clear hR1 U1 hu2 M f0 f1 f2 f3 f4 f5 f6 f7 f8 c0 c1 c2 c3 c4 c5 c6 c7 c8
      have c0 := hR2.cell 0
      have c1 := hR2.cell 1
      have c2 := hR2.cell 2
      have c3 := hR2.cell 3
      have c4 := hR2.cell 4
      have c5 := hR2.cell 5
      have c6 := hR2.cell 6
      have c7 := hR2.cell 7
      have c8 := hR2.cell 8
      simp at c0 c1 c2 c3 c4 c5 c6 c7 c8
      have f0 := hR2.frozen 0
      have f1 := hR2.frozen 1
      have f2 := hR2.frozen 2
      have f3 := hR2.frozen 3
      have f4 := hR2.frozen 4
      have f5 := hR2.frozen 5
      have f6 := hR2.frozen 6
      have f7 := hR2.frozen 7
      have f8 := hR2.frozen 8
      repeat' ((fail_if_success (with_reducible refine stop_append rfl ?_)); (fail_if_success (with_reducible refine stop_copy rfl ?_)); first | go_values | go_skip | go_guarded | go_step | go_upon | (simp only []; go_at_K))
      have N := nine (.int .i64 0) (.int .i64 0) (.int .i64 0) (.int .i64 0) (.int .i64 0) (.int .i64 0) (.int .i64 0) (.int .i64 0) (.int .i64 0) (hR2) (U2) (by omega)
      generalize World.setCell _ ⟨w.heap.size, 8, none⟩ _ = W9 at N ⊢
      obtain ⟨n1, n2⟩ := N
      clear c0 c1 c2 c3 c4 c5 c6 c7 c8
      have c0 := n1.cell 0
      have c1 := n1.cell 1
      have c2 := n1.cell 2
      have c3 := n1.cell 3
      have c4 := n1.cell 4
      have c5 := n1.cell 5
      have c6 := n1.cell 6
      have c7 := n1.cell 7
      have c8 := n1.cell 8
      simp at c0 c1 c2 c3 c4 c5 c6 c7 c8
      repeat' ((fail_if_success (with_reducible refine stop_append rfl ?_)); (fail_if_success (with_reducible refine stop_copy rfl ?_)); first | go_values | go_skip | go_guarded | go_step | go_upon | (simp only []; go_at_K))
      refine bodyPost_ret (v := .tuple #[.agg #[.int .i64 0, .int .i64 0, .int .i64 0, .int .i64 0, .int .i64 0, .int .i64 0, .int .i64 0, .int .i64 0, .int .i64 0], .iface 67 (.agg #[.iface 36 (.int .i64 1)])]) (by simp [results, Tryd.results9, go_sem, c0, c1, c2, c3, c4, c5, c6, c7, c8]) rfl ⟨HR.out, n2⟩
    · have HR : Hid (DecTold b (.returned (.tuple #[.agg #[.int .i64 (x0 : Int), .int .i64 (x1 : Int), .int .i64 y0, .int .i64 y1, .int .i64 y2, .int .i64 y3, .int .i64 y4, .int .i64 y5, .int .i64 y6], .nilIface]))) := .inr ⟨cm, by rw [HD.out, hm]; rfl, by rw [HV.out]⟩
      have E : cm.err = 0 := by simp [Cm.err, hm]
      rw [E] at M
      clear hm E HD HV
      repeat' ((fail_if_success (with_reducible refine stop_append rfl ?_)); (fail_if_success (with_reducible refine stop_copy rfl ?_)); first | go_values | go_skip | go_guarded | go_step | go_upon | (simp only []; go_at_K))
      refine (M _).mono ?_
      rintro e w2 ⟨rfl, hu2⟩
      have hT2 := (Blk.new ((w1.alloc (.cells #[.int .i64 (x0 : Int), .int .i64 (x1 : Int)] 78)).alloc (.cells #[.int .i64 y0, .int .i64 y1, .int .i64 y2, .int .i64 y3, .int .i64 y4, .int .i64 y5, .int .i64 y6] 72)) 23 #[.int .i64 (x0 : Int), .int .i64 (x1 : Int), .int .i64 y0, .int .i64 y1, .int .i64 y2, .int .i64 y3, .int .i64 y4, .int .i64 y5, .int .i64 y6]).upd hu2 (by simp)
      rw [World.size_alloc, World.size_alloc] at hT2
      have hR2 := (((hR1.alloc _).alloc _).alloc _).upd hu2 (by simp)
      have U2 := (((U1.alloc _).alloc _).alloc _).trans hu2
      clear hR1 U1 hu2 M f0 f1 f2 f3 f4 f5 f6 f7 f8 c0 c1 c2 c3 c4 c5 c6 c7 c8
      have c0 := hR2.cell 0
      have c1 := hR2.cell 1
      have c2 := hR2.cell 2
      have c3 := hR2.cell 3
      have c4 := hR2.cell 4
      have c5 := hR2.cell 5
      have c6 := hR2.cell 6
      have c7 := hR2.cell 7
      have c8 := hR2.cell 8
      simp at c0 c1 c2 c3 c4 c5 c6 c7 c8
      have f0 := hR2.frozen 0
      have f1 := hR2.frozen 1
      have f2 := hR2.frozen 2
      have f3 := hR2.frozen 3
      have f4 := hR2.frozen 4
      have f5 := hR2.frozen 5
      have f6 := hR2.frozen 6
      have f7 := hR2.frozen 7
      have f8 := hR2.frozen 8
      have t0 := hT2.cell 0
      have t1 := hT2.cell 1
      have t2 := hT2.cell 2
      have t3 := hT2.cell 3
      have t4 := hT2.cell 4
      have t5 := hT2.cell 5
      have t6 := hT2.cell 6
      have t7 := hT2.cell 7
      have t8 := hT2.cell 8
      simp at t0 t1 t2 t3 t4 t5 t6 t7 t8
      repeat' ((fail_if_success (with_reducible refine stop_append rfl ?_)); (fail_if_success (with_reducible refine stop_copy rfl ?_)); first | go_values | go_skip | go_guarded | go_step | go_upon | (simp only []; go_at_K))
      clear t0 t1 t2 t3 t4 t5 t6 t7 t8
      have N := nine (.int .i64 (x0 : Int)) (.int .i64 (x1 : Int)) (.int .i64 y0) (.int .i64 y1) (.int .i64 y2) (.int .i64 y3) (.int .i64 y4) (.int .i64 y5) (.int .i64 y6) (hR2) (U2) (by omega)
      generalize World.setCell _ ⟨w.heap.size, 8, none⟩ _ = W9 at N ⊢
      obtain ⟨n1, n2⟩ := N
      clear c0 c1 c2 c3 c4 c5 c6 c7 c8
      have c0 := n1.cell 0
      have c1 := n1.cell 1
      have c2 := n1.cell 2
      have c3 := n1.cell 3
      have c4 := n1.cell 4
      have c5 := n1.cell 5
      have c6 := n1.cell 6
      have c7 := n1.cell 7
      have c8 := n1.cell 8
      simp at c0 c1 c2 c3 c4 c5 c6 c7 c8
      repeat' ((fail_if_success (with_reducible refine stop_append rfl ?_)); (fail_if_success (with_reducible refine stop_copy rfl ?_)); first | go_values | go_skip | go_guarded | go_step | go_upon | (simp only []; go_at_K))
      refine bodyPost_ret (v := .tuple #[.agg #[.int .i64 (x0 : Int), .int .i64 (x1 : Int), .int .i64 y0, .int .i64 y1, .int .i64 y2, .int .i64 y3, .int .i64 y4, .int .i64 y5, .int .i64 y6], .nilIface]) (by simp [results, Tryd.results9, go_sem, c0, c1, c2, c3, c4, c5, c6, c7, c8]) rfl ⟨HR.out, n2⟩
end Go.Proofs.YtmnoahglajilhaaDoor
