/- Commands: agioref05.Decode, its May by its contract. -/
import Derived.Test.YtmnoahglajilhaaDoorRef05
import Derived.Test.YtmnoahglajilhaaDoorTake
import Derived.Test.YtmnoahglajilhaaDoorBase2
set_option linter.all false
namespace Go.Proofs.YtmnoahglajilhaaDoor
open Go.RowKit Agio

/-- What agioref05.Decode tells. -/
def R5 (b : List UInt8) (e : Ending) : Prop :=
  (∃ er : Er, cmdDec b = .inl er ∧ e = .returned (.tuple #[Cm.zero.val, .int .i64 er.code])) ∨ ∃ c, cmdDec b = .inr c ∧ e = .returned (.tuple #[c.val, .int .i64 0])
theorem r5_bad {b : List UInt8} {bad a : Nat} (h : cmdRead b = .inl (bad, a)) : R5 b (.returned (.tuple #[.agg #[.int .i64 0, .int .i64 0, .int .i64 0, .int .i64 0, .int .i64 0, .int .i64 0, .int .i64 0, .int .i64 0, .int .i64 0], .int .i64 (bad : Int)])) :=
  .inl ⟨.cf (.wf bad a), by unfold cmdDec; rw [h], rfl⟩
theorem r5_no {b : List UInt8} {x0 x1 : Nat} {l : List Int} (h : cmdRead b = .inr (x0, x1, l)) (hm : (Cm.of x0 x1 l).may = false) : R5 b (.returned (.tuple #[.agg #[.int .i64 0, .int .i64 0, .int .i64 0, .int .i64 0, .int .i64 0, .int .i64 0, .int .i64 0, .int .i64 0, .int .i64 0], .int .i64 1])) :=
  .inl ⟨.cf (.no 1), by unfold cmdDec; rw [h]; simp only [hm]; rfl, rfl⟩
theorem r5_yes {b : List UInt8} {x0 x1 : Nat} {l : List Int} (h : cmdRead b = .inr (x0, x1, l)) (hm : (Cm.of x0 x1 l).may = true) : R5 b (.returned (.tuple #[(Cm.of x0 x1 l).val, .int .i64 0])) :=
  .inr ⟨_, by unfold cmdDec; rw [h]; simp only [hm]; rfl, rfl⟩
theorem sevenC_get {l : List Int} (h : l.length < 7) : ∃ y : Int, (sevenC l).toArray[l.length]? = some (.int .i64 y) := by
  refine ⟨0, ?_⟩
  simp only [sevenC, List.getElem?_toArray]
  rw [List.getElem?_append_right (by simp)]
  simp [List.getElem?_replicate]
  omega

set_option maxRecDepth 100000 in
set_option maxHeartbeats 8000000 in
theorem ref05Decode (HM : ∀ (c : Cm) (w : World), Calls Tryd.prog 12 #[c.val] w fun e w' => e = .returned (.int .i64 c.err) ∧ Upd [] [] w w') (w : World) (B : Option Addr) (m d : Nat) (b : List UInt8) (hB : RdB w B m b) (hb : b.length ≤ 140737488355328) :
    Calls Tryd.prog 10 #[.slice B m d] w fun e w' => R5 b e ∧ Upd [] [] w w' := by
  have hR1 := Blk.new w 23 #[.int .i64 0, .int .i64 0, .int .i64 0, .int .i64 0, .int .i64 0, .int .i64 0, .int .i64 0, .int .i64 0, .int .i64 0]
  have U1 := (Upd.refl [] w).alloc (.cells #[.int .i64 0, .int .i64 0, .int .i64 0, .int .i64 0, .int .i64 0, .int .i64 0, .int .i64 0, .int .i64 0, .int .i64 0] 23)
  have hB1 := hB.alloc (.cells #[.int .i64 0, .int .i64 0, .int .i64 0, .int .i64 0, .int .i64 0, .int .i64 0, .int .i64 0, .int .i64 0, .int .i64 0] 23)
  have hl1 : (w.alloc (.cells #[.int .i64 0, .int .i64 0, .int .i64 0, .int .i64 0, .int .i64 0, .int .i64 0, .int .i64 0, .int .i64 0, .int .i64 0] 23)).heap.size = w.heap.size + 1 := by simp
  have HML := Lib.hid hB.len
  have C := refSmall (w.alloc (.cells #[.int .i64 0, .int .i64 0, .int .i64 0, .int .i64 0, .int .i64 0, .int .i64 0, .int .i64 0, .int .i64 0, .int .i64 0] 23)) B m d b hB1 hb 0 (by omega) 1000 (by unfold I64; omega)
  rw [show ((0 : Nat) : Int) = 0 from rfl, List.drop_zero] at C
  have HMH := Lib.hid HM
  clear HM
  go_enter Tryd.func10, Tryd.ntmps10
  repeat' ((fail_if_success (with_reducible refine stop_append rfl ?_)); (fail_if_success (with_reducible refine stop_copy rfl ?_)); first | go_values | go_skip | go_guarded | go_step | go_upon | (simp only []; go_at_K))
  obtain ⟨n, k, bad, hu⟩ : ∃ n k bad, upt 1000 b = (n, k, bad) := ⟨_, _, _, rfl⟩
  rw [hu] at C
  ((with_reducible refine C.mono ?_); rintro e w1 ⟨rfl, hw1⟩)
  subst hw1
  generalize w.alloc (.cells #[.int .i64 0, .int .i64 0, .int .i64 0, .int .i64 0, .int .i64 0, .int .i64 0, .int .i64 0, .int .i64 0, .int .i64 0] 23) = w1 at *
  clear C
  have hlt1 : w.heap.size < w1.heap.size := by omega
  clear hl1
  by_cases hz : bad = 0
  · subst hz
    have hok := uv_ok (l := b) (upt_ok (by rw [hu])).1
    have hkk : k ≤ b.length := by
      have h1 := (upt_ok (most := 1000) (l := b) (by rw [hu])).2.1
      rw [hu] at h1
      have := hok.2.1
      rw [← h1] at this; exact this
    have C := refSmall w1 B m d b hB1 hb k hkk 1000 (by unfold I64; omega)
    obtain ⟨n1, k1, bad1, hu1⟩ : ∃ n1 k1 bad1, upt 1000 (b.drop k) = (n1, k1, bad1) := ⟨_, _, _, rfl⟩
    rw [hu1] at C
    clear hok
    have HU := Lib.hid hu
    clear hu
    repeat' ((fail_if_success (with_reducible refine stop_append rfl ?_)); (fail_if_success (with_reducible refine stop_copy rfl ?_)); first | go_values | go_skip | go_guarded | go_step | go_upon | (simp only []; go_at_K))
    ((with_reducible refine C.mono ?_); rintro e w2 ⟨rfl, rfl⟩)
    clear C
    by_cases hz1 : bad1 = 0
    · subst hz1
      have hkk1 : k + k1 ≤ b.length := by
        have h0 := upt_ok (most := 1000) (l := b.drop k) (by rw [hu1])
        have h1 := h0.2.1
        rw [hu1] at h1
        have := (uv_ok (l := b.drop k) h0.1).2.1
        rw [← h1, List.length_drop] at this; simp only at this; omega
      have HU1 := Lib.hid hu1
      clear hu1
      have hks : k + k1 ≤ 140737488355328 := by omega
      repeat' ((fail_if_success (with_reducible refine stop_append rfl ?_)); (fail_if_success (with_reducible refine stop_copy rfl ?_)); first | go_values | go_skip | go_guarded | go_step | go_upon | (simp only []; go_at_K))
      have hG2 : Blk (w1.alloc (.cells (sevenC []).toArray 72)) w1.heap.size 72 (sevenC []).toArray := Blk.new _ _ _
      have hR2 := hR1.alloc (.cells (sevenC []).toArray 72)
      have hB2 := hB1.alloc (.cells (sevenC []).toArray 72)
      have U2 := U1.alloc (.cells (sevenC []).toArray 72)
      go_loopw [10, 12, 13, 14, 15] (fun v10 v12 _ _ _ wr => ∃ (l : List Int) (a : Nat), l.length ≤ 7 ∧ v12 = .int .i64 (l.length : Int) ∧ v10 = .int .i64 (a : Int) ∧ a ≤ b.length ∧ tailSt b (k + k1) l a ∧ Blk wr w1.heap.size 72 (sevenC l).toArray ∧ Blk wr w.heap.size 23 #[.int .i64 0, .int .i64 0, .int .i64 0, .int .i64 0, .int .i64 0, .int .i64 0, .int .i64 0, .int .i64 0, .int .i64 0] ∧ Upd [] [] w wr)
        (fun _ v12 _ _ _ _ => 7 - (intOf v12).toNat)
      case atStart => exact ⟨[], k + k1, by simp, rfl, by simp, hkk1, tailSt_zero _ _, hG2, hR2, U2⟩
      case round =>
        clear hG2 hR2 hB2 U2
        obtain ⟨l, a, hl7, rfl, rfl, hab, hst, hG, hR, U⟩ := hrel
        have hBr := hB.upd U (by simp)
        have hlG := hG.lt
        have hlR1 := hR.lt
        have hww := U1.size
        by_cases hlt : l.length < 7
        · have C := refGet wr B m d b hBr hb a hab
          obtain ⟨x, sz, bad, hu⟩ : ∃ x sz bad, uv (b.drop a) = (x, sz, bad) := ⟨_, _, _, rfl⟩
          rw [hu] at C
          by_cases hz : bad = 0
          · subst hz
            have hok := uv_ok (l := b.drop a) (by rw [hu])
            rw [hu, List.length_drop] at hok
            have hUx : U64 x := hok.2.2.2
            have hsl : a + sz ≤ b.length := by have := hok.2.1; simp only at this; omega
            have hsm : a + sz ≤ 140737488355328 := by omega
            have HN := Lib.hid (tailSt_more hst hlt hu)
            have HFS := Lib.hid (sevenC_set hlt (zag x))
            have CZ := refZag x wr hUx
            obtain ⟨y, hcy⟩ := sevenC_get hlt
            rw [← hG.cell] at hcy
            have hfy := hG.frozen l.length
            clear hok hUx hst hu
            repeat' ((fail_if_success (with_reducible refine stop_append rfl ?_)); (fail_if_success (with_reducible refine stop_copy rfl ?_)); first | go_values | go_skip | go_guarded | go_step | go_upon | (simp only []; go_at_K))
            ((with_reducible refine C.mono ?_); rintro e w2 ⟨rfl, rfl⟩)
            repeat' ((fail_if_success (with_reducible refine stop_append rfl ?_)); (fail_if_success (with_reducible refine stop_copy rfl ?_)); first | go_values | go_skip | go_guarded | go_step | go_upon | (simp only []; go_at_K))
            ((with_reducible refine CZ.mono ?_); rintro e w2 ⟨rfl, rfl⟩)
            clear C CZ hab
            repeat' ((fail_if_success (with_reducible refine stop_append rfl ?_)); (fail_if_success (with_reducible refine stop_copy rfl ?_)); first | go_values | go_skip | go_guarded | go_step | go_upon | (simp only []; go_at_K))
            refine ⟨⟨l ++ [zag x], a + sz, by simp; omega, by simp, by simp, hsl, HN.out, ?_, hR.far (by simp; omega) _, U.setCell (.inr (by simp; omega)) _⟩, by simp [intOf] <;> omega⟩
            rw [← HFS.out]; exact hG.set_ _ _
          · have HR := Lib.hid (read_t HU.out HU1.out (tailSt_bad hst hlt hu hz))
            have hzi : ((bad : Int) == 0) = false := beq_false_of_ne (by omega)
            have hzn : ((bad : Int) != 0) = true := by rw [bne, hzi]; rfl
            clear hst hu
            obtain ⟨⟨q0, q1, q2, q3, q4, q5, q6, q7, q8⟩, f0, f1, f2, f3, f4, f5, f6, f7, f8⟩ := hR.c9
            repeat' ((fail_if_success (with_reducible refine stop_append rfl ?_)); (fail_if_success (with_reducible refine stop_copy rfl ?_)); first | go_values | go_skip | go_guarded | go_step | go_upon | (simp only []; go_at_K))
            ((with_reducible refine C.mono ?_); rintro e w2 ⟨rfl, rfl⟩)
            clear C
            repeat' ((fail_if_success (with_reducible refine stop_append rfl ?_)); (fail_if_success (with_reducible refine stop_copy rfl ?_)); first | go_values | go_skip | go_guarded | go_step | go_upon | (simp only []; go_at_K))
            have N := rowSet [.int .i64 0, .int .i64 0, .int .i64 0, .int .i64 0, .int .i64 0, .int .i64 0, .int .i64 0, .int .i64 0, .int .i64 0] hR rfl U (.inr (by omega))
            simp only [setRow] at N
            generalize World.setCell _ ⟨w.heap.size, 8, none⟩ _ = W5 at N ⊢
            obtain ⟨hN, hU5⟩ := N
            clear q0 q1 q2 q3 q4 q5 q6 q7 q8
            obtain ⟨⟨q0, q1, q2, q3, q4, q5, q6, q7, q8⟩, -⟩ := hN.c9
            exact bodyPost_ret (v := .tuple #[.agg #[.int .i64 0, .int .i64 0, .int .i64 0, .int .i64 0, .int .i64 0, .int .i64 0, .int .i64 0, .int .i64 0, .int .i64 0], .int .i64 (bad : Int)]) (by simp [results, Tryd.results10, go_sem, q0, q1, q2, q3, q4, q5, q6, q7, q8]) rfl ⟨r5_bad HR.out, hU5⟩
        · have hl : l.length = 7 := by omega
          have HRE := Lib.hid (read_e HU.out HU1.out (tailSt_end hst hl))
          obtain ⟨y0, y1, y2, y3, y4, y5, y6, rfl, hya⟩ := sevenC_full hl
          rw [hya] at hG
          clear hst hlt hl7 hl hya
          have hnl := HML.out
          by_cases he : a = b.length
          · have HR : Hid (cmdRead b = .inr (n, n1, [y0, y1, y2, y3, y4, y5, y6])) := Lib.hid (by rw [HRE.out, if_neg (by omega)])
            have hei : ((a : Int) == (m : Int)) = true := by rw [beq_iff_eq]; omega
            have hen : ((a : Int) != (m : Int)) = false := by rw [bne, hei]; rfl
            clear HRE he hnl
            obtain ⟨⟨s0, s1, s2, s3, s4, s5, s6⟩, -⟩ := hG.c7
            repeat' ((fail_if_success (with_reducible refine stop_append rfl ?_)); (fail_if_success (with_reducible refine stop_copy rfl ?_)); first | go_values | go_skip | go_guarded | go_step | go_upon | (simp only []; go_at_K))
            have M := HMH.out (Cm.of n n1 [y0, y1, y2, y3, y4, y5, y6]) (wr.alloc (.cells #[.int .i64 (n : Int), .int .i64 (n1 : Int), .int .i64 y0, .int .i64 y1, .int .i64 y2, .int .i64 y3, .int .i64 y4, .int .i64 y5, .int .i64 y6] 23))
            rw [show (Cm.of n n1 [y0, y1, y2, y3, y4, y5, y6]).val = .agg #[.int .i64 (n : Int), .int .i64 (n1 : Int), .int .i64 y0, .int .i64 y1, .int .i64 y2, .int .i64 y3, .int .i64 y4, .int .i64 y5, .int .i64 y6] from rfl] at M
            have hT := Blk.new wr 23 #[.int .i64 (n : Int), .int .i64 (n1 : Int), .int .i64 y0, .int .i64 y1, .int .i64 y2, .int .i64 y3, .int .i64 y4, .int .i64 y5, .int .i64 y6]
            have hR3 := hR.alloc (.cells #[.int .i64 (n : Int), .int .i64 (n1 : Int), .int .i64 y0, .int .i64 y1, .int .i64 y2, .int .i64 y3, .int .i64 y4, .int .i64 y5, .int .i64 y6] 23)
            have U3 := U.alloc (.cells #[.int .i64 (n : Int), .int .i64 (n1 : Int), .int .i64 y0, .int .i64 y1, .int .i64 y2, .int .i64 y3, .int .i64 y4, .int .i64 y5, .int .i64 y6] 23)
            ((with_reducible refine M.mono ?_); rintro e w3 ⟨rfl, hu3⟩)
            have hT4 := hT.upd hu3 (by simp)
            have hR4 := hR3.upd hu3 (by simp)
            have U4 := U3.trans hu3
            have hlR4 := hR4.lt
            clear M hT hR3 U3 hu3 s0 s1 s2 s3 s4 s5 s6
            obtain ⟨⟨t0, t1, t2, t3, t4, t5, t6, t7, t8⟩, -⟩ := hT4.c9
            obtain ⟨⟨q0, q1, q2, q3, q4, q5, q6, q7, q8⟩, f0, f1, f2, f3, f4, f5, f6, f7, f8⟩ := hR4.c9
            cases hm : (Cm.of n n1 [y0, y1, y2, y3, y4, y5, y6]).may with
            | false =>
              have E : (Cm.of n n1 [y0, y1, y2, y3, y4, y5, y6]).err = 1 := by simp [Cm.err, hm]
              rw [E]
              have HM2 := Lib.hid hm
              clear hm E
              repeat' ((fail_if_success (with_reducible refine stop_append rfl ?_)); (fail_if_success (with_reducible refine stop_copy rfl ?_)); first | go_values | go_skip | go_guarded | go_step | go_upon | (simp only []; go_at_K))
              have N := rowSet [.int .i64 0, .int .i64 0, .int .i64 0, .int .i64 0, .int .i64 0, .int .i64 0, .int .i64 0, .int .i64 0, .int .i64 0] hR4 rfl U4 (.inr (by omega))
              simp only [setRow] at N
              generalize World.setCell _ ⟨w.heap.size, 8, none⟩ _ = W5 at N ⊢
              obtain ⟨hN, hU5⟩ := N
              clear q0 q1 q2 q3 q4 q5 q6 q7 q8
              obtain ⟨⟨q0, q1, q2, q3, q4, q5, q6, q7, q8⟩, -⟩ := hN.c9
              exact bodyPost_ret (v := .tuple #[.agg #[.int .i64 0, .int .i64 0, .int .i64 0, .int .i64 0, .int .i64 0, .int .i64 0, .int .i64 0, .int .i64 0, .int .i64 0], .int .i64 1]) (by simp [results, Tryd.results10, go_sem, q0, q1, q2, q3, q4, q5, q6, q7, q8]) rfl ⟨r5_no HR.out HM2.out, hU5⟩
            | true =>
              have E : (Cm.of n n1 [y0, y1, y2, y3, y4, y5, y6]).err = 0 := by simp [Cm.err, hm]
              rw [E]
              have HM2 := Lib.hid hm
              clear hm E
              repeat' ((fail_if_success (with_reducible refine stop_append rfl ?_)); (fail_if_success (with_reducible refine stop_copy rfl ?_)); first | go_values | go_skip | go_guarded | go_step | go_upon | (simp only []; go_at_K))
              have N := rowSet [.int .i64 (n : Int), .int .i64 (n1 : Int), .int .i64 y0, .int .i64 y1, .int .i64 y2, .int .i64 y3, .int .i64 y4, .int .i64 y5, .int .i64 y6] hR4 rfl U4 (.inr (by omega))
              simp only [setRow] at N
              generalize World.setCell _ ⟨w.heap.size, 8, none⟩ _ = W5 at N ⊢
              obtain ⟨hN, hU5⟩ := N
              clear q0 q1 q2 q3 q4 q5 q6 q7 q8
              obtain ⟨⟨q0, q1, q2, q3, q4, q5, q6, q7, q8⟩, -⟩ := hN.c9
              exact bodyPost_ret (v := .tuple #[.agg #[.int .i64 (n : Int), .int .i64 (n1 : Int), .int .i64 y0, .int .i64 y1, .int .i64 y2, .int .i64 y3, .int .i64 y4, .int .i64 y5, .int .i64 y6], .int .i64 0]) (by simp [results, Tryd.results10, go_sem, q0, q1, q2, q3, q4, q5, q6, q7, q8]) rfl ⟨r5_yes HR.out HM2.out, hU5⟩
          · have HR : Hid (cmdRead b = .inl (2, a)) := Lib.hid (by rw [HRE.out, if_pos (by omega)])
            have hei : ((a : Int) == (m : Int)) = false := beq_false_of_ne (by omega)
            have hen : ((a : Int) != (m : Int)) = true := by rw [bne, hei]; rfl
            clear HRE he hnl
            obtain ⟨⟨q0, q1, q2, q3, q4, q5, q6, q7, q8⟩, f0, f1, f2, f3, f4, f5, f6, f7, f8⟩ := hR.c9
            repeat' ((fail_if_success (with_reducible refine stop_append rfl ?_)); (fail_if_success (with_reducible refine stop_copy rfl ?_)); first | go_values | go_skip | go_guarded | go_step | go_upon | (simp only []; go_at_K))
            have N := rowSet [.int .i64 0, .int .i64 0, .int .i64 0, .int .i64 0, .int .i64 0, .int .i64 0, .int .i64 0, .int .i64 0, .int .i64 0] hR rfl U (.inr (by omega))
            simp only [setRow] at N
            generalize World.setCell _ ⟨w.heap.size, 8, none⟩ _ = W5 at N ⊢
            obtain ⟨hN, hU5⟩ := N
            clear q0 q1 q2 q3 q4 q5 q6 q7 q8
            obtain ⟨⟨q0, q1, q2, q3, q4, q5, q6, q7, q8⟩, -⟩ := hN.c9
            exact bodyPost_ret (v := .tuple #[.agg #[.int .i64 0, .int .i64 0, .int .i64 0, .int .i64 0, .int .i64 0, .int .i64 0, .int .i64 0, .int .i64 0, .int .i64 0], .int .i64 2]) (by simp [results, Tryd.results10, go_sem, q0, q1, q2, q3, q4, q5, q6, q7, q8]) rfl ⟨r5_bad HR.out, hU5⟩
    · have HR := Lib.hid (read_h1 HU.out hu1 hz1)
      have hzi : ((bad1 : Int) == 0) = false := beq_false_of_ne (by omega)
      have hzn : ((bad1 : Int) != 0) = true := by rw [bne, hzi]; rfl
      clear hu1
      obtain ⟨⟨q0, q1, q2, q3, q4, q5, q6, q7, q8⟩, f0, f1, f2, f3, f4, f5, f6, f7, f8⟩ := hR1.c9
      repeat' ((fail_if_success (with_reducible refine stop_append rfl ?_)); (fail_if_success (with_reducible refine stop_copy rfl ?_)); first | go_values | go_skip | go_guarded | go_step | go_upon | (simp only []; go_at_K))
      have N := rowSet [.int .i64 0, .int .i64 0, .int .i64 0, .int .i64 0, .int .i64 0, .int .i64 0, .int .i64 0, .int .i64 0, .int .i64 0] hR1 rfl U1 (.inr (by omega))
      simp only [setRow] at N
      generalize World.setCell _ ⟨w.heap.size, 8, none⟩ _ = W5 at N ⊢
      obtain ⟨hN, hU5⟩ := N
      clear q0 q1 q2 q3 q4 q5 q6 q7 q8
      obtain ⟨⟨q0, q1, q2, q3, q4, q5, q6, q7, q8⟩, -⟩ := hN.c9
      exact bodyPost_ret (v := .tuple #[.agg #[.int .i64 0, .int .i64 0, .int .i64 0, .int .i64 0, .int .i64 0, .int .i64 0, .int .i64 0, .int .i64 0, .int .i64 0], .int .i64 (bad1 : Int)]) (by simp [results, Tryd.results10, go_sem, q0, q1, q2, q3, q4, q5, q6, q7, q8]) rfl ⟨r5_bad HR.out, hU5⟩
  · have HR := Lib.hid (read_h0 hu hz)
    have hzi : ((bad : Int) == 0) = false := beq_false_of_ne (by omega)
    have hzn : ((bad : Int) != 0) = true := by rw [bne, hzi]; rfl
    clear hu
    obtain ⟨⟨q0, q1, q2, q3, q4, q5, q6, q7, q8⟩, f0, f1, f2, f3, f4, f5, f6, f7, f8⟩ := hR1.c9
    repeat' ((fail_if_success (with_reducible refine stop_append rfl ?_)); (fail_if_success (with_reducible refine stop_copy rfl ?_)); first | go_values | go_skip | go_guarded | go_step | go_upon | (simp only []; go_at_K))
    have N := rowSet [.int .i64 0, .int .i64 0, .int .i64 0, .int .i64 0, .int .i64 0, .int .i64 0, .int .i64 0, .int .i64 0, .int .i64 0] hR1 rfl U1 (.inr (by omega))
    simp only [setRow] at N
    generalize World.setCell _ ⟨w.heap.size, 8, none⟩ _ = W5 at N ⊢
    obtain ⟨hN, hU5⟩ := N
    clear q0 q1 q2 q3 q4 q5 q6 q7 q8
    obtain ⟨⟨q0, q1, q2, q3, q4, q5, q6, q7, q8⟩, -⟩ := hN.c9
    exact bodyPost_ret (v := .tuple #[.agg #[.int .i64 0, .int .i64 0, .int .i64 0, .int .i64 0, .int .i64 0, .int .i64 0, .int .i64 0, .int .i64 0, .int .i64 0], .int .i64 (bad : Int)]) (by simp [results, Tryd.results10, go_sem, q0, q1, q2, q3, q4, q5, q6, q7, q8]) rfl ⟨r5_bad HR.out, hU5⟩
end Go.Proofs.YtmnoahglajilhaaDoor
