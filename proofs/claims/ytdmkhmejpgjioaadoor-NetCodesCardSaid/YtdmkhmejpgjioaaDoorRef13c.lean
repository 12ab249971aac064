/- Messages: agioref13.Decode. -/
import Derived.Test.YtdmkhmejpgjioaaDoorRef13b
import Derived.Test.YtdmkhmejpgjioaaDoorTake
import Derived.Test.YtdmkhmejpgjioaaDoorNet5
set_option linter.all false
namespace Go.Proofs.YtdmkhmejpgjioaaDoor
open Go.RowKit Agio

/-- What agioref13.Decode tells. -/
def N13 (b : List UInt8) (w : World) (e : Ending) : Prop :=
  (¬ Whole b ∧ e = .returned (.tuple #[.agg #[.int .i64 0, .int .i64 0, .int .i64 0, .int .i64 0, .int .i64 0, .int .i64 0, .int .i64 0, .int .i64 0, .bool false, .slice none 0 0], .int .i64 4])) ∨
  (Whole b ∧ decI (b.drop 8) = none ∧ e = .returned (.tuple #[.agg #[.int .i64 0, .int .i64 0, .int .i64 0, .int .i64 0, .int .i64 0, .int .i64 0, .int .i64 0, .int .i64 0, .bool false, .slice none 0 0], .int .i64 2])) ∨
  ∃ x : Mv, Whole b ∧ decI (b.drop 8) = some x.ms ∧ OwnB 5 w x.A x.n x.c x.b ∧ e = .returned (.tuple #[.agg #[.int .i64 x.k, .int .i64 x.f, .int .i64 x.t, .int .i64 x.s, .int .i64 x.br, .int .i64 x.bs, .int .i64 x.hr, .int .i64 x.hs, .bool x.so, .slice x.A x.n x.c], .int .i64 0])
theorem ms9_at {i : Nat} (h : i < 9) : ms9[i]? = some 1099511627776 := by unfold ms9; rw [List.getElem?_replicate, if_pos h]
def nineC (l : List Nat) : List Value := i64s l ++ List.replicate (9 - l.length) (.int .i64 0)
theorem nineC_set {l : List Nat} (h : l.length < 9) (x : Nat) : (nineC l).toArray.setIfInBounds l.length (.int .i64 (x : Int)) = (nineC (l ++ [x])).toArray := by
  have h9 : 9 - l.length = (9 - (l.length + 1)) + 1 := by omega
  have hl : (i64s l).length = l.length := by simp [i64s]
  unfold nineC
  rw [h9, List.replicate_succ]
  simp only [List.setIfInBounds_toArray, List.length_append, List.length_cons, List.length_nil]
  congr 1
  rw [← hl, List.set_append_right _ _ (Nat.le_refl _)]
  simp [i64s]
theorem nineC_get {l : List Nat} (h : l.length < 9) : ∃ y : Int, (nineC l).toArray[l.length]? = some (.int .i64 y) := by
  refine ⟨0, ?_⟩
  simp only [nineC, List.getElem?_toArray]
  rw [List.getElem?_append_right (by simp [i64s])]
  simp [i64s, List.getElem?_replicate]
  omega

set_option maxRecDepth 100000 in
set_option maxHeartbeats 8000000 in
theorem ref13Decode (w : World) (B : Option Addr) (m d : Nat) (b : List UInt8) (hB : RdB w B m b) (hmd : m ≤ d) (hd : d ≤ maxLen) (hb : b.length ≤ 140737488355328) :
    Calls Tryd.prog 24 #[.slice B m d] w fun e w' => N13 b w' e ∧ Upd [] [] w w' := by
  have C := refTakeF (w.alloc (.cells #[.int .i64 0, .int .i64 0, .int .i64 0, .int .i64 0, .int .i64 0, .int .i64 0, .int .i64 0, .int .i64 0, .bool false, .slice none 0 0] 56)) B m d b (hB.alloc _) hmd hd hb
  have hR1 := Blk.new w 56 #[.int .i64 0, .int .i64 0, .int .i64 0, .int .i64 0, .int .i64 0, .int .i64 0, .int .i64 0, .int .i64 0, .bool false, .slice none 0 0]
  have U1 := (Upd.refl [] w).alloc (.cells #[.int .i64 0, .int .i64 0, .int .i64 0, .int .i64 0, .int .i64 0, .int .i64 0, .int .i64 0, .int .i64 0, .bool false, .slice none 0 0] 56)
  have hl1 : w.heap.size < (w.alloc (.cells #[.int .i64 0, .int .i64 0, .int .i64 0, .int .i64 0, .int .i64 0, .int .i64 0, .int .i64 0, .int .i64 0, .bool false, .slice none 0 0] 56)).heap.size := by simp
  clear hmd hd
  go_enter Tryd.func24, Tryd.ntmps24
  repeat' ((fail_if_success (with_reducible refine stop_append rfl ?_)); (fail_if_success (with_reducible refine stop_copy rfl ?_)); first | go_values | go_skip | go_guarded | go_step | go_upon | (simp only []; go_at_K))
  ((with_reducible refine C.mono ?_); rintro e w1 ⟨⟨A1, n1, c1, A9, n9, c9, rfl, hr1, hr9, hnc, hcm, -, -, hsub⟩, kd, rfl⟩)
  have hr1 : RdB ((w.alloc (.cells #[.int .i64 0, .int .i64 0, .int .i64 0, .int .i64 0, .int .i64 0, .int .i64 0, .int .i64 0, .int .i64 0, .bool false, .slice none 0 0] 56)).drewN kd) A1 n1 _ := Rd.drewN hr1 kd
  have hr9 : RdB ((w.alloc (.cells #[.int .i64 0, .int .i64 0, .int .i64 0, .int .i64 0, .int .i64 0, .int .i64 0, .int .i64 0, .int .i64 0, .bool false, .slice none 0 0] 56)).drewN kd) A9 n9 _ := Rd.drewN hr9 kd
  have hR1 := hR1.drewN kd
  have U1 := U1.drewN kd
  obtain ⟨W1, hW1⟩ : ∃ W1, (w.alloc (.cells #[.int .i64 0, .int .i64 0, .int .i64 0, .int .i64 0, .int .i64 0, .int .i64 0, .int .i64 0, .int .i64 0, .bool false, .slice none 0 0] 56)).drewN kd = W1 := ⟨_, rfl⟩
  have hl1 : w.heap.size < W1.heap.size := by rw [← hW1]; exact hl1
  rw [hW1] at hr1 hr9 hR1 U1 ⊢
  clear C hW1
  obtain ⟨z, bad, hf⟩ : ∃ z bad, fst b = (z, bad) := ⟨_, _, rfl⟩
  rw [hf] at hr1 hr9 ⊢
  simp only at hr1 hr9 ⊢
  by_cases hz : bad = 0
  · subst hz
    simp only [if_true] at hr1 hr9
    have hn2 := hr9.len
    by_cases h2 : 0 < n9
    · have HN := Lib.hid (not_whole (b := b) hf (by intro h; rw [h] at hn2; simp at hn2; omega))
      clear hf hn2
      obtain ⟨⟨q0, q1, q2, q3, q4, q5, q6, q7, q8, q9⟩, f0, f1, f2, f3, f4, f5, f6, f7, f8, f9⟩ := hR1.c10
      have h2' : (0 : Int) < (n9 : Int) := by omega
      repeat' ((fail_if_success (with_reducible refine stop_append rfl ?_)); (fail_if_success (with_reducible refine stop_copy rfl ?_)); first | go_values | go_skip | go_guarded | go_step | go_upon | (simp only []; go_at_K))
      have N := rowSet [.int .i64 0, .int .i64 0, .int .i64 0, .int .i64 0, .int .i64 0, .int .i64 0, .int .i64 0, .int .i64 0, .bool false, .slice none 0 0] hR1 rfl U1 (.inr (by omega))
      simp only [setRow] at N
      generalize World.setCell _ ⟨w.heap.size, 9, none⟩ _ = W5 at N ⊢
      obtain ⟨hN, hU5⟩ := N
      clear q0 q1 q2 q3 q4 q5 q6 q7 q8 q9
      obtain ⟨⟨q0, q1, q2, q3, q4, q5, q6, q7, q8, q9⟩, -⟩ := hN.c10
      exact bodyPost_ret (v := .tuple #[.agg #[.int .i64 0, .int .i64 0, .int .i64 0, .int .i64 0, .int .i64 0, .int .i64 0, .int .i64 0, .int .i64 0, .bool false, .slice none 0 0], .int .i64 4]) (by simp [results, Tryd.results24, go_sem, q0, q1, q2, q3, q4, q5, q6, q7, q8, q9]) rfl ⟨.inl ⟨HN.out, rfl⟩, hU5⟩
    · obtain rfl : n9 = 0 := by omega
      have hfk := fst_ok hf
      have hW : Whole b := by
        have h3 : b.length = 8 + z := by have := hfk.2.1; have h4 := hn2; rw [List.length_drop] at h4; omega
        exact ⟨by rw [hf, h3]; simp, by omega⟩
      have hin : (b.drop 8).take z = b.drop 8 := by
        rw [List.take_of_length_le]
        have := hn2; rw [List.length_drop] at this ⊢; omega
      rw [hin] at hr1
      have hA1 : ∀ j ∈ ablk A1, j < w.heap.size := by
        intro j hj
        have hjB := hsub j (by simp [hj])
        have hm := hB.len
        have hw := hW.2
        obtain ⟨ad, u, e, _, hc⟩ := Rd.at_ (k := 0) hB (by omega)
        subst e
        simp [ablk] at hjB
        subst hjB
        have := World.block_lt_of_cell? w _ hc
        rwa [block_of_add] at this
      have hil : (b.drop 8).length ≤ 140737488355328 := by simp; omega
      have HW := Lib.hid hW
      clear hf hfk hin hn2 h2 hr9 hW
      generalize hbi : b.drop 8 = bi at *
      have HBI := Lib.hid hbi
      have HNL := Lib.hid hr1.len
      have HC := Lib.hid hnc
      have HM := Lib.hid hcm
      clear hbi hnc hcm
      repeat' ((fail_if_success (with_reducible refine stop_append rfl ?_)); (fail_if_success (with_reducible refine stop_copy rfl ?_)); first | go_values | go_skip | go_guarded | go_step | go_upon | (simp only []; go_at_K))
      have hG2 : Blk (W1.alloc (.cells (nineC []).toArray 136)) W1.heap.size 136 (nineC []).toArray := Blk.new _ _ _
      have hR2 := hR1.alloc (.cells (nineC []).toArray 136)
      have hr2 := hr1.alloc (.cells (nineC []).toArray 136)
      have U2 := U1.alloc (.cells (nineC []).toArray 136)
      have hnw : w.heap.size ≠ W1.heap.size := by omega
      have hww := U1.size
      go_loopw [8, 9, 10, 11, 12] (fun v8 v9 _ _ _ wr => ∃ (l : List Nat) (a : Nat), l.length ≤ 9 ∧ v9 = .int .i64 (l.length : Int) ∧ v8 = .int .i64 (a : Int) ∧ NumSt bi ms9 l a ∧ Blk wr W1.heap.size 136 (nineC l).toArray ∧ Blk wr w.heap.size 56 #[.int .i64 0, .int .i64 0, .int .i64 0, .int .i64 0, .int .i64 0, .int .i64 0, .int .i64 0, .int .i64 0, .bool false, .slice none 0 0] ∧ RdB wr A1 n1 bi ∧ Upd [] [] w wr)
        (fun _ v9 _ _ _ _ => 9 - (intOf v9).toNat)
      case atStart => exact ⟨[], 0, by simp, rfl, rfl, NumSt.zero _ _, hG2, hR2, hr2, U2⟩
      case round =>
        clear hG2 hR2 hr2 U2 hR1 hr1 U1
        obtain ⟨l, a, hl4, rfl, rfl, hst, hG, hR, hr, U⟩ := hrel
        have hab := hst.2
        have hlG := hG.lt
        have hgA : ∀ j ∈ ablk A1, j ≠ W1.heap.size := fun j hj => by have := hA1 j hj; omega
        by_cases hlt : l.length < 9
        · have hmo := ms9_at hlt
          have C := refSmall wr A1 n1 c1 bi hr hil a hab 1099511627776 (by unfold I64; omega)
          obtain ⟨n, sz, bad, hu⟩ : ∃ n sz bad, upt 1099511627776 (bi.drop a) = (n, sz, bad) := ⟨_, _, _, rfl⟩
          rw [hu] at C
          by_cases hz : bad = 0
          · subst hz
            have hmore := hst.more hmo hu
            have hsl : a + sz ≤ 140737488355328 := Nat.le_trans hmore.2 hil
            have HN := Lib.hid hmore
            have HFS := Lib.hid (nineC_set hlt n)
            obtain ⟨y, hcy⟩ := nineC_get hlt
            rw [← hG.cell] at hcy
            have hfy := hG.frozen l.length
            clear hmore hst hmo hu
            repeat' ((fail_if_success (with_reducible refine stop_append rfl ?_)); (fail_if_success (with_reducible refine stop_copy rfl ?_)); first | go_values | go_skip | go_guarded | go_step | go_upon | (simp only []; go_at_K))
            ((with_reducible refine C.mono ?_); rintro e w2 ⟨rfl, rfl⟩)
            clear C hab
            repeat' ((fail_if_success (with_reducible refine stop_append rfl ?_)); (fail_if_success (with_reducible refine stop_copy rfl ?_)); first | go_values | go_skip | go_guarded | go_step | go_upon | (simp only []; go_at_K))
            refine ⟨⟨l ++ [n], a + sz, by simp; omega, by simp, by simp, HN.out, ?_, hR.far (by simp; omega) _, ?_, U.setCell (.inr (by simp; omega)) _⟩, by simp [intOf] <;> omega⟩
            · rw [← HFS.out]; exact hG.set_ _ _
            · exact Rd.setCell hr (fun hj => hgA _ hj rfl) _
          · have HD := Lib.hid (decI_none (deci_none (body_nums (hst.bad hmo hu hz))))
            have hzi : ((bad : Int) == 0) = false := beq_false_of_ne (by omega)
            have hzn : ((bad : Int) != 0) = true := by rw [bne, hzi]; rfl
            clear hst hmo hu
            obtain ⟨⟨q0, q1, q2, q3, q4, q5, q6, q7, q8, q9⟩, f0, f1, f2, f3, f4, f5, f6, f7, f8, f9⟩ := hR.c10
            repeat' ((fail_if_success (with_reducible refine stop_append rfl ?_)); (fail_if_success (with_reducible refine stop_copy rfl ?_)); first | go_values | go_skip | go_guarded | go_step | go_upon | (simp only []; go_at_K))
            ((with_reducible refine C.mono ?_); rintro e w2 ⟨rfl, rfl⟩)
            clear C
            repeat' ((fail_if_success (with_reducible refine stop_append rfl ?_)); (fail_if_success (with_reducible refine stop_copy rfl ?_)); first | go_values | go_skip | go_guarded | go_step | go_upon | (simp only []; go_at_K))
            have N := rowSet [.int .i64 0, .int .i64 0, .int .i64 0, .int .i64 0, .int .i64 0, .int .i64 0, .int .i64 0, .int .i64 0, .bool false, .slice none 0 0] hR rfl U (.inr (by omega))
            simp only [setRow] at N
            generalize World.setCell _ ⟨w.heap.size, 9, none⟩ _ = W5 at N ⊢
            obtain ⟨hN, hU5⟩ := N
            clear q0 q1 q2 q3 q4 q5 q6 q7 q8 q9
            obtain ⟨⟨q0, q1, q2, q3, q4, q5, q6, q7, q8, q9⟩, -⟩ := hN.c10
            exact bodyPost_ret (v := .tuple #[.agg #[.int .i64 0, .int .i64 0, .int .i64 0, .int .i64 0, .int .i64 0, .int .i64 0, .int .i64 0, .int .i64 0, .bool false, .slice none 0 0], .int .i64 2]) (by simp [results, Tryd.results24, go_sem, q0, q1, q2, q3, q4, q5, q6, q7, q8, q9]) rfl ⟨.inr (.inl ⟨HW.out, by rw [HBI.out]; exact HD.out, rfl⟩), hU5⟩
        · obtain ⟨n0, n1', n2, n3, n4, n5, n6, n7, n8, rfl⟩ := nine_of (l := l) (by omega)
          have hN := hst.all (by rfl)
          clear hst hlt hl4
          have C := refTake wr A1 n1 c1 bi hr HC.out HM.out hil a hab 2048 (by unfold I64; omega)
          obtain ⟨v, sz, bad, hu⟩ : ∃ v sz bad, tk 2048 (bi.drop a) = (v, sz, bad) := ⟨_, _, _, rfl⟩
          have HT := Lib.hid (body_tk hN hu)
          have HNS := Lib.hid hN
          rw [hu] at C
          have hG : Blk wr W1.heap.size 136 #[.int .i64 (n0 : Int), .int .i64 (n1' : Int), .int .i64 (n2 : Int), .int .i64 (n3 : Int), .int .i64 (n4 : Int), .int .i64 (n5 : Int), .int .i64 (n6 : Int), .int .i64 (n7 : Int), .int .i64 (n8 : Int)] := hG
          obtain ⟨so, hso⟩ : ∃ so, ((n8 : Int) == 1) = so := ⟨_, rfl⟩
          have HSO : Hid (so = decide (n8 = 1)) := Lib.hid (by
            rw [← hso]
            by_cases h : n8 = 1
            · subst h; rfl
            · rw [beq_false_of_ne (by omega)]; simp [h])
          clear hN
          by_cases hz : bad = 0
          · subst hz
            have hk := (tk_once hu).2.2
            rw [List.length_drop] at hk
            by_cases he : a + sz = bi.length
            · have HB := Lib.hid (show body bi ms9 = some ([n0, n1', n2, n3, n4, n5, n6, n7, n8], v) by rw [HT.out, if_pos ⟨rfl, he⟩])
              have hnl := HNL.out
              have hei : ((a : Int) + (sz : Int) == (n1 : Int)) = true := by rw [beq_iff_eq]; omega
              have hen : ((a : Int) + (sz : Int) != (n1 : Int)) = false := by rw [bne, hei]; rfl
              have hsl : a + sz ≤ 140737488355328 := by omega
              clear hu hk he hnl HT
              by_cases h8 : 1 < n8
              · have HD := Lib.hid (decI_big HNS.out h8)
                have h8i : (1 : Int) < (n8 : Int) := by omega
                repeat' ((fail_if_success (with_reducible refine stop_append rfl ?_)); (fail_if_success (with_reducible refine stop_copy rfl ?_)); first | go_values | go_skip | go_guarded | go_step | go_upon | (simp only []; go_at_K))
                ((with_reducible refine C.mono ?_); rintro e w2 ⟨A2, k2, c2, rfl, ho2, hu2⟩)
                have hR2 := hR.upd hu2 (by simp)
                have hG2 := hG.upd hu2 (by simp)
                have U2 := (U.trans hu2).gives (b' := []) (by simp)
                obtain ⟨⟨s0, s1, s2, s3, s4, s5, s6, s7, s8⟩, -⟩ := hG2.c9
                clear C hR hG U hu2 hab hr
                have U3 := U2.alloc (.cells #[.int .i64 (n0 : Int), .int .i64 (n1' : Int), .int .i64 (n2 : Int), .int .i64 (n3 : Int), .int .i64 (n4 : Int), .int .i64 (n5 : Int), .int .i64 (n6 : Int), .int .i64 (n7 : Int), .bool so, .slice A2 k2 c2] 56)
                have hR3 := hR2.alloc (.cells #[.int .i64 (n0 : Int), .int .i64 (n1' : Int), .int .i64 (n2 : Int), .int .i64 (n3 : Int), .int .i64 (n4 : Int), .int .i64 (n5 : Int), .int .i64 (n6 : Int), .int .i64 (n7 : Int), .bool so, .slice A2 k2 c2] 56)
                have hlR := hR3.lt
                obtain ⟨⟨q0, q1, q2, q3, q4, q5, q6, q7, q8, q9⟩, f0, f1, f2, f3, f4, f5, f6, f7, f8, f9⟩ := hR3.c10
                have t8 : (w2.alloc (.cells #[.int .i64 (n0 : Int), .int .i64 (n1' : Int), .int .i64 (n2 : Int), .int .i64 (n3 : Int), .int .i64 (n4 : Int), .int .i64 (n5 : Int), .int .i64 (n6 : Int), .int .i64 (n7 : Int), .bool so, .slice A2 k2 c2] 56)).cell? ⟨W1.heap.size, 8, none⟩ = some (.int .i64 (n8 : Int)) := (hG2.alloc _).cell 8
                repeat' ((fail_if_success (with_reducible refine stop_append rfl ?_)); (fail_if_success (with_reducible refine stop_copy rfl ?_)); first | go_values | go_skip | go_guarded | go_step | go_upon | (simp only []; go_at_K))
                have N := rowSet [.int .i64 0, .int .i64 0, .int .i64 0, .int .i64 0, .int .i64 0, .int .i64 0, .int .i64 0, .int .i64 0, .bool false, .slice none 0 0] hR3 rfl U3 (.inr (by omega))
                simp only [setRow] at N
                generalize World.setCell _ ⟨w.heap.size, 9, none⟩ _ = W5 at N ⊢
                obtain ⟨hN, hU5⟩ := N
                clear q0 q1 q2 q3 q4 q5 q6 q7 q8 q9
                obtain ⟨⟨q0, q1, q2, q3, q4, q5, q6, q7, q8, q9⟩, -⟩ := hN.c10
                exact bodyPost_ret (v := .tuple #[.agg #[.int .i64 0, .int .i64 0, .int .i64 0, .int .i64 0, .int .i64 0, .int .i64 0, .int .i64 0, .int .i64 0, .bool false, .slice none 0 0], .int .i64 2]) (by simp [results, Tryd.results24, go_sem, q0, q1, q2, q3, q4, q5, q6, q7, q8, q9]) rfl ⟨.inr (.inl ⟨HW.out, by rw [HBI.out]; exact HD.out, rfl⟩), hU5⟩
              · have h8i : ¬ (1 : Int) < (n8 : Int) := by omega
                have h8j : (n8 : Int) ≤ 1 := by omega
                repeat' ((fail_if_success (with_reducible refine stop_append rfl ?_)); (fail_if_success (with_reducible refine stop_copy rfl ?_)); first | go_values | go_skip | go_guarded | go_step | go_upon | (simp only []; go_at_K))
                ((with_reducible refine C.mono ?_); rintro e w2 ⟨A2, k2, c2, rfl, ho2, hu2⟩)
                have hR2 := hR.upd hu2 (by simp)
                have hG2 := hG.upd hu2 (by simp)
                have U2 := (U.trans hu2).gives (b' := []) (by simp)
                obtain ⟨⟨s0, s1, s2, s3, s4, s5, s6, s7, s8⟩, -⟩ := hG2.c9
                clear C hR hG U hu2 hab hr
                have U3 := U2.alloc (.cells #[.int .i64 (n0 : Int), .int .i64 (n1' : Int), .int .i64 (n2 : Int), .int .i64 (n3 : Int), .int .i64 (n4 : Int), .int .i64 (n5 : Int), .int .i64 (n6 : Int), .int .i64 (n7 : Int), .bool so, .slice A2 k2 c2] 56)
                have hR3 := hR2.alloc (.cells #[.int .i64 (n0 : Int), .int .i64 (n1' : Int), .int .i64 (n2 : Int), .int .i64 (n3 : Int), .int .i64 (n4 : Int), .int .i64 (n5 : Int), .int .i64 (n6 : Int), .int .i64 (n7 : Int), .bool so, .slice A2 k2 c2] 56)
                have hT3 := Blk.new w2 56 #[.int .i64 (n0 : Int), .int .i64 (n1' : Int), .int .i64 (n2 : Int), .int .i64 (n3 : Int), .int .i64 (n4 : Int), .int .i64 (n5 : Int), .int .i64 (n6 : Int), .int .i64 (n7 : Int), .bool so, .slice A2 k2 c2]
                have t8 : (w2.alloc (.cells #[.int .i64 (n0 : Int), .int .i64 (n1' : Int), .int .i64 (n2 : Int), .int .i64 (n3 : Int), .int .i64 (n4 : Int), .int .i64 (n5 : Int), .int .i64 (n6 : Int), .int .i64 (n7 : Int), .bool so, .slice A2 k2 c2] 56)).cell? ⟨W1.heap.size, 8, none⟩ = some (.int .i64 (n8 : Int)) := (hG2.alloc _).cell 8
                have ho3 := ho2.alloc (.cells #[.int .i64 (n0 : Int), .int .i64 (n1' : Int), .int .i64 (n2 : Int), .int .i64 (n3 : Int), .int .i64 (n4 : Int), .int .i64 (n5 : Int), .int .i64 (n6 : Int), .int .i64 (n7 : Int), .bool so, .slice A2 k2 c2] 56)
                have hg2 : w.heap.size < w2.heap.size := hR2.lt
                repeat' ((fail_if_success (with_reducible refine stop_append rfl ?_)); (fail_if_success (with_reducible refine stop_copy rfl ?_)); first | go_values | go_skip | go_guarded | go_step | go_upon | (simp only []; go_at_K))
                obtain ⟨x, hx⟩ : ∃ x : Mv, x = ⟨n0, n1', n2, n3, n4, n5, n6, n7, so, A2, k2, c2, v⟩ := ⟨_, rfl⟩
                have M := ref13May x (w2.alloc (.cells #[.int .i64 (n0 : Int), .int .i64 (n1' : Int), .int .i64 (n2 : Int), .int .i64 (n3 : Int), .int .i64 (n4 : Int), .int .i64 (n5 : Int), .int .i64 (n6 : Int), .int .i64 (n7 : Int), .bool so, .slice A2 k2 c2] 56)) (by rw [hx]; exact ho3.rd)
                rw [Mv.val_eq] at M
                have hxc : x.ms = Ms.of n0 n1' n2 n3 n4 n5 n6 n7 n8 v := by rw [hx, HSO.out]; rfl
                have hxo : OwnB 5 (w2.alloc (.cells #[.int .i64 (n0 : Int), .int .i64 (n1' : Int), .int .i64 (n2 : Int), .int .i64 (n3 : Int), .int .i64 (n4 : Int), .int .i64 (n5 : Int), .int .i64 (n6 : Int), .int .i64 (n7 : Int), .bool so, .slice A2 k2 c2] 56)) x.A x.n x.c x.b := by rw [hx]; exact ho3
                have hxe : (#[.agg #[.int .i64 x.k, .int .i64 x.f, .int .i64 x.t, .int .i64 x.s, .int .i64 x.br, .int .i64 x.bs, .int .i64 x.hr, .int .i64 x.hs, .bool x.so, .slice x.A x.n x.c]] : Array Value) = #[.agg #[.int .i64 (n0 : Int), .int .i64 (n1' : Int), .int .i64 (n2 : Int), .int .i64 (n3 : Int), .int .i64 (n4 : Int), .int .i64 (n5 : Int), .int .i64 (n6 : Int), .int .i64 (n7 : Int), .bool so, .slice A2 k2 c2]] := by rw [hx]
                rw [hxe] at M
                ((with_reducible refine M.mono ?_); rintro e w3 ⟨⟨y, rfl, hy⟩, hu3⟩)
                obtain ⟨hby, huniq⟩ := deci_body HB.out
                have hby := hby (by omega)
                rw [← hxc] at hby huniq
                have hxo3 := hxo.upd hu3 (by simp)
                have hR4 := hR3.upd hu3 (by simp)
                have hT4 := hT3.upd hu3 (by simp)
                have U4 := U3.trans hu3
                have hlR := hR4.lt
                clear hxe M hxo hu3 U2 U3 ho2 ho3 hG2 s0 s1 s2 s3 s4 s5 s6 s7 s8 t8 hR2 hR3 hT3
                obtain ⟨⟨t0, t1, t2, t3, t4, t5, t6, t7, t8, t9⟩, -⟩ := hT4.c10
                obtain ⟨⟨q0, q1, q2, q3, q4, q5, q6, q7, q8, q9⟩, f0, f1, f2, f3, f4, f5, f6, f7, f8, f9⟩ := hR4.c10
                cases y with
                | false =>
                  have HD := Lib.hid (decI_none (b := bi) (fun r hr => by have := (huniq r hr).2; subst this; exact absurd (hy.2 hr.1) (by simp)))
                  clear hy hby huniq hx hxc hxo3 HB
                  repeat' ((fail_if_success (with_reducible refine stop_append rfl ?_)); (fail_if_success (with_reducible refine stop_copy rfl ?_)); first | go_values | go_skip | go_guarded | go_step | go_upon | (simp only []; go_at_K))
                  have N := rowSet [.int .i64 0, .int .i64 0, .int .i64 0, .int .i64 0, .int .i64 0, .int .i64 0, .int .i64 0, .int .i64 0, .bool false, .slice none 0 0] hR4 rfl U4 (.inr (by omega))
                  simp only [setRow] at N
                  generalize World.setCell _ ⟨w.heap.size, 9, none⟩ _ = W5 at N ⊢
                  obtain ⟨hN, hU5⟩ := N
                  clear q0 q1 q2 q3 q4 q5 q6 q7 q8 q9
                  obtain ⟨⟨q0, q1, q2, q3, q4, q5, q6, q7, q8, q9⟩, -⟩ := hN.c10
                  exact bodyPost_ret (v := .tuple #[.agg #[.int .i64 0, .int .i64 0, .int .i64 0, .int .i64 0, .int .i64 0, .int .i64 0, .int .i64 0, .int .i64 0, .bool false, .slice none 0 0], .int .i64 2]) (by simp [results, Tryd.results24, go_sem, q0, q1, q2, q3, q4, q5, q6, q7, q8, q9]) rfl ⟨.inr (.inl ⟨HW.out, by rw [HBI.out]; exact HD.out, rfl⟩), hU5⟩
                | true =>
                  have HDS := Lib.hid (decI_some (b := bi) (m := x.ms) ⟨hy.1 rfl, hby⟩)
                  have HX := Lib.hid hx
                  clear hy hby huniq hxc HB hx
                  repeat' ((fail_if_success (with_reducible refine stop_append rfl ?_)); (fail_if_success (with_reducible refine stop_copy rfl ?_)); first | go_values | go_skip | go_guarded | go_step | go_upon | (simp only []; go_at_K))
                  have N := rowSet [.int .i64 (n0 : Int), .int .i64 (n1' : Int), .int .i64 (n2 : Int), .int .i64 (n3 : Int), .int .i64 (n4 : Int), .int .i64 (n5 : Int), .int .i64 (n6 : Int), .int .i64 (n7 : Int), .bool so, .slice A2 k2 c2] hR4 rfl U4 (.inr (by omega))
                  have N2 := rowSet [.int .i64 (n0 : Int), .int .i64 (n1' : Int), .int .i64 (n2 : Int), .int .i64 (n3 : Int), .int .i64 (n4 : Int), .int .i64 (n5 : Int), .int .i64 (n6 : Int), .int .i64 (n7 : Int), .bool so, .slice A2 k2 c2] hR4 rfl (Upd.refl [w.heap.size] w3) (.inl (by simp))
                  have ho5 := hxo3.upd N2.2 (fun j hj => by simp; rintro rfl; exact hxo3.own.ne hR4 (by decide) hj)
                  clear N2
                  simp only [setRow] at N ho5
                  generalize World.setCell _ ⟨w.heap.size, 9, none⟩ _ = W5 at N ho5 ⊢
                  obtain ⟨hN, hU5⟩ := N
                  clear q0 q1 q2 q3 q4 q5 q6 q7 q8 q9
                  obtain ⟨⟨q0, q1, q2, q3, q4, q5, q6, q7, q8, q9⟩, -⟩ := hN.c10
                  exact bodyPost_ret (v := .tuple #[.agg #[.int .i64 (n0 : Int), .int .i64 (n1' : Int), .int .i64 (n2 : Int), .int .i64 (n3 : Int), .int .i64 (n4 : Int), .int .i64 (n5 : Int), .int .i64 (n6 : Int), .int .i64 (n7 : Int), .bool so, .slice A2 k2 c2], .int .i64 0]) (by simp [results, Tryd.results24, go_sem, q0, q1, q2, q3, q4, q5, q6, q7, q8, q9]) rfl ⟨.inr (.inr ⟨x, HW.out, by rw [HBI.out]; exact HDS.out, ho5, by rw [HX.out]⟩), hU5⟩
            · have HD := Lib.hid (decI_none (deci_none (show body bi ms9 = none by rw [HT.out, if_neg (by omega)])))
              have hnl := HNL.out
              have hei : ((a : Int) + (sz : Int) == (n1 : Int)) = false := beq_false_of_ne (by omega)
              have hen : ((a : Int) + (sz : Int) != (n1 : Int)) = true := by rw [bne, hei]; rfl
              have hsl : a + sz ≤ 140737488355328 := by omega
              clear hu hk he hnl HT
              repeat' ((fail_if_success (with_reducible refine stop_append rfl ?_)); (fail_if_success (with_reducible refine stop_copy rfl ?_)); first | go_values | go_skip | go_guarded | go_step | go_upon | (simp only []; go_at_K))
              ((with_reducible refine C.mono ?_); rintro e w2 ⟨A2, k2, c2, rfl, ho2, hu2⟩)
              have hR2 := hR.upd hu2 (by simp)
              have hG2 := hG.upd hu2 (by simp)
              have U2 := (U.trans hu2).gives (b' := []) (by simp)
              obtain ⟨⟨s0, s1, s2, s3, s4, s5, s6, s7, s8⟩, -⟩ := hG2.c9
              clear C hR hG U hu2 hab hr
              have U3 := U2.alloc (.cells #[.int .i64 (n0 : Int), .int .i64 (n1' : Int), .int .i64 (n2 : Int), .int .i64 (n3 : Int), .int .i64 (n4 : Int), .int .i64 (n5 : Int), .int .i64 (n6 : Int), .int .i64 (n7 : Int), .bool so, .slice A2 k2 c2] 56)
              have hR3 := hR2.alloc (.cells #[.int .i64 (n0 : Int), .int .i64 (n1' : Int), .int .i64 (n2 : Int), .int .i64 (n3 : Int), .int .i64 (n4 : Int), .int .i64 (n5 : Int), .int .i64 (n6 : Int), .int .i64 (n7 : Int), .bool so, .slice A2 k2 c2] 56)
              have hlR := hR3.lt
              obtain ⟨⟨q0, q1, q2, q3, q4, q5, q6, q7, q8, q9⟩, f0, f1, f2, f3, f4, f5, f6, f7, f8, f9⟩ := hR3.c10
              repeat' ((fail_if_success (with_reducible refine stop_append rfl ?_)); (fail_if_success (with_reducible refine stop_copy rfl ?_)); first | go_values | go_skip | go_guarded | go_step | go_upon | (simp only []; go_at_K))
              have N := rowSet [.int .i64 0, .int .i64 0, .int .i64 0, .int .i64 0, .int .i64 0, .int .i64 0, .int .i64 0, .int .i64 0, .bool false, .slice none 0 0] hR3 rfl U3 (.inr (by omega))
              simp only [setRow] at N
              generalize World.setCell _ ⟨w.heap.size, 9, none⟩ _ = W5 at N ⊢
              obtain ⟨hN, hU5⟩ := N
              clear q0 q1 q2 q3 q4 q5 q6 q7 q8 q9
              obtain ⟨⟨q0, q1, q2, q3, q4, q5, q6, q7, q8, q9⟩, -⟩ := hN.c10
              exact bodyPost_ret (v := .tuple #[.agg #[.int .i64 0, .int .i64 0, .int .i64 0, .int .i64 0, .int .i64 0, .int .i64 0, .int .i64 0, .int .i64 0, .bool false, .slice none 0 0], .int .i64 2]) (by simp [results, Tryd.results24, go_sem, q0, q1, q2, q3, q4, q5, q6, q7, q8, q9]) rfl ⟨.inr (.inl ⟨HW.out, by rw [HBI.out]; exact HD.out, rfl⟩), hU5⟩
          · have HD := Lib.hid (decI_none (deci_none (show body bi ms9 = none by rw [HT.out, if_neg (by simp [hz])])))
            have hzi : ((bad : Int) == 0) = false := beq_false_of_ne (by omega)
            have hzn : ((bad : Int) != 0) = true := by rw [bne, hzi]; rfl
            clear hu HT
            repeat' ((fail_if_success (with_reducible refine stop_append rfl ?_)); (fail_if_success (with_reducible refine stop_copy rfl ?_)); first | go_values | go_skip | go_guarded | go_step | go_upon | (simp only []; go_at_K))
            ((with_reducible refine C.mono ?_); rintro e w2 ⟨A2, k2, c2, rfl, ho2, hu2⟩)
            have hR2 := hR.upd hu2 (by simp)
            have hG2 := hG.upd hu2 (by simp)
            have U2 := (U.trans hu2).gives (b' := []) (by simp)
            obtain ⟨⟨s0, s1, s2, s3, s4, s5, s6, s7, s8⟩, -⟩ := hG2.c9
            clear C hR hG U hu2 hab hr
            have U3 := U2.alloc (.cells #[.int .i64 (n0 : Int), .int .i64 (n1' : Int), .int .i64 (n2 : Int), .int .i64 (n3 : Int), .int .i64 (n4 : Int), .int .i64 (n5 : Int), .int .i64 (n6 : Int), .int .i64 (n7 : Int), .bool so, .slice A2 k2 c2] 56)
            have hR3 := hR2.alloc (.cells #[.int .i64 (n0 : Int), .int .i64 (n1' : Int), .int .i64 (n2 : Int), .int .i64 (n3 : Int), .int .i64 (n4 : Int), .int .i64 (n5 : Int), .int .i64 (n6 : Int), .int .i64 (n7 : Int), .bool so, .slice A2 k2 c2] 56)
            have hlR := hR3.lt
            obtain ⟨⟨q0, q1, q2, q3, q4, q5, q6, q7, q8, q9⟩, f0, f1, f2, f3, f4, f5, f6, f7, f8, f9⟩ := hR3.c10
            repeat' ((fail_if_success (with_reducible refine stop_append rfl ?_)); (fail_if_success (with_reducible refine stop_copy rfl ?_)); first | go_values | go_skip | go_guarded | go_step | go_upon | (simp only []; go_at_K))
            have N := rowSet [.int .i64 0, .int .i64 0, .int .i64 0, .int .i64 0, .int .i64 0, .int .i64 0, .int .i64 0, .int .i64 0, .bool false, .slice none 0 0] hR3 rfl U3 (.inr (by omega))
            simp only [setRow] at N
            generalize World.setCell _ ⟨w.heap.size, 9, none⟩ _ = W5 at N ⊢
            obtain ⟨hN, hU5⟩ := N
            clear q0 q1 q2 q3 q4 q5 q6 q7 q8 q9
            obtain ⟨⟨q0, q1, q2, q3, q4, q5, q6, q7, q8, q9⟩, -⟩ := hN.c10
            exact bodyPost_ret (v := .tuple #[.agg #[.int .i64 0, .int .i64 0, .int .i64 0, .int .i64 0, .int .i64 0, .int .i64 0, .int .i64 0, .int .i64 0, .bool false, .slice none 0 0], .int .i64 2]) (by simp [results, Tryd.results24, go_sem, q0, q1, q2, q3, q4, q5, q6, q7, q8, q9]) rfl ⟨.inr (.inl ⟨HW.out, by rw [HBI.out]; exact HD.out, rfl⟩), hU5⟩
  · have HN := Lib.hid (not_whole' (b := b) (by rw [hf]; exact hz))
    have hzi : ((bad : Int) == 0) = false := beq_false_of_ne (by omega)
    have hz' : ((bad : Int) != 0) = true := by rw [bne, hzi]; rfl
    clear hf hz hr1 hr9
    obtain ⟨⟨q0, q1, q2, q3, q4, q5, q6, q7, q8, q9⟩, f0, f1, f2, f3, f4, f5, f6, f7, f8, f9⟩ := hR1.c10
    repeat' ((fail_if_success (with_reducible refine stop_append rfl ?_)); (fail_if_success (with_reducible refine stop_copy rfl ?_)); first | go_values | go_skip | go_guarded | go_step | go_upon | (simp only []; go_at_K))
    have N := rowSet [.int .i64 0, .int .i64 0, .int .i64 0, .int .i64 0, .int .i64 0, .int .i64 0, .int .i64 0, .int .i64 0, .bool false, .slice none 0 0] hR1 rfl U1 (.inr (by omega))
    simp only [setRow] at N
    generalize World.setCell _ ⟨w.heap.size, 9, none⟩ _ = W5 at N ⊢
    obtain ⟨hN, hU5⟩ := N
    clear q0 q1 q2 q3 q4 q5 q6 q7 q8 q9
    obtain ⟨⟨q0, q1, q2, q3, q4, q5, q6, q7, q8, q9⟩, -⟩ := hN.c10
    exact bodyPost_ret (v := .tuple #[.agg #[.int .i64 0, .int .i64 0, .int .i64 0, .int .i64 0, .int .i64 0, .int .i64 0, .int .i64 0, .int .i64 0, .bool false, .slice none 0 0], .int .i64 4]) (by simp [results, Tryd.results24, go_sem, q0, q1, q2, q3, q4, q5, q6, q7, q8, q9]) rfl ⟨.inl ⟨HN.out, rfl⟩, hU5⟩
end Go.Proofs.YtdmkhmejpgjioaaDoor
