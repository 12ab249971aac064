/- Messages: (agio/net).Decode. -/
import Derived.Test.YtdmkhmejpgjioaaDoorNet4
import Derived.Test.YtdmkhmejpgjioaaDoorFrame5
set_option linter.all false
namespace Go.Proofs.YtdmkhmejpgjioaaDoor
open Go.RowKit Agio

/-- What Decode tells. -/
def NDec (b : List UInt8) (w : World) (e : Ending) : Prop :=
  (¬ Whole b ∧ e = .returned (.tuple #[.agg #[.int .i64 0, .int .i64 0, .int .i64 0, .int .i64 0, .int .i64 0, .int .i64 0, .int .i64 0, .int .i64 0, .bool false, .slice none 0 0], .iface 127 (.agg #[.int .i64 4])])) ∨
  (Whole b ∧ decI (b.drop 8) = none ∧ e = .returned (.tuple #[.agg #[.int .i64 0, .int .i64 0, .int .i64 0, .int .i64 0, .int .i64 0, .int .i64 0, .int .i64 0, .int .i64 0, .bool false, .slice none 0 0], .iface 127 (.agg #[.int .i64 2])])) ∨
  ∃ x : Mv, Whole b ∧ decI (b.drop 8) = some x.ms ∧ OwnB 5 w x.A x.n x.c x.b ∧ e = .returned (.tuple #[.agg #[.int .i64 x.k, .int .i64 x.f, .int .i64 x.t, .int .i64 x.s, .int .i64 x.br, .int .i64 x.bs, .int .i64 x.hr, .int .i64 x.hs, .bool x.so, .slice x.A x.n x.c], .nilIface])

theorem nine_of {l : List Nat} (h : l.length = 9) : ∃ n0 n1 n2 n3 n4 n5 n6 n7 n8 : Nat, l = [n0, n1, n2, n3, n4, n5, n6, n7, n8] := by
  match l, h with
  | [a, b, c, d, e, f, g, i, j], _ => exact ⟨a, b, c, d, e, f, g, i, j, rfl⟩
theorem decI_big {bi : List UInt8} {n0 n1 n2 n3 n4 n5 n6 n7 n8 a : Nat} (hn : nums bi ms9 0 = some ([n0, n1, n2, n3, n4, n5, n6, n7, n8], a)) (h8 : 1 < n8) : decI bi = none := by
  refine decI_none fun m hm => ?_
  obtain ⟨v, k, bad, ht⟩ : ∃ v k bad, tk 2048 (bi.drop a) = (v, k, bad) := ⟨_, _, _, rfl⟩
  have hb := body_tk hn ht
  by_cases hc : bad = 0 ∧ a + k = bi.length
  · rw [if_pos hc] at hb
    have := ((deci_body hb).2 m hm).1
    omega
  · rw [if_neg hc] at hb
    exact deci_none hb m hm
/-- The result is stored, and handed back. -/
theorem ten {W w : World} {H : Nat} {t : TypeId} {cs : Array Value} (vs : List Value) (hH : Blk W H t cs) (hl : cs.size = vs.length) (U : Upd [] [] w W) (hHn : w.heap.size ≤ H) :
    Blk (setRow W H 0 vs) H t vs.toArray ∧ Upd [] [] w (setRow W H 0 vs) := rowSet vs hH hl U (.inr hHn)

set_option maxRecDepth 100000 in
set_option maxHeartbeats 8000000 in
theorem netDecode (w : World) (B : Option Addr) (m d : Nat) (b : List UInt8) (hB : RdB w B m b) (hmd : m ≤ d) (hd : d ≤ maxLen) (hb : b.length ≤ 140737488355328) :
    Calls Tryd.prog 23 #[.slice B m d] w fun e w' => NDec b w' e ∧ Upd [] [] w w' := by
  have hR0 := Blk.new w 56 #[.int .i64 0, .int .i64 0, .int .i64 0, .int .i64 0, .int .i64 0, .int .i64 0, .int .i64 0, .int .i64 0, .bool false, .slice none 0 0]
  have C := frameTake _ B m d b (hB.alloc (.cells #[.int .i64 0, .int .i64 0, .int .i64 0, .int .i64 0, .int .i64 0, .int .i64 0, .int .i64 0, .int .i64 0, .bool false, .slice none 0 0] 56)) hmd hd hb
  go_enter Tryd.func23, Tryd.ntmps23
  repeat' ((fail_if_success (with_reducible refine stop_append rfl ?_)); (fail_if_success (with_reducible refine stop_copy rfl ?_)); first | go_values | go_skip | go_guarded | go_step | go_upon | (simp only []; go_at_K))
  ((with_reducible refine C.mono ?_); rintro e w1 ⟨hT, hu1⟩)
  have hR1 := hR0.upd hu1 (by simp)
  have U1 : Upd [] [] w w1 := ((Upd.refl [] w).alloc _).trans hu1
  have hl1 := hR1.lt
  clear C hR0 hu1
  rcases hT with ⟨bad, hf, hz, rfl⟩ | ⟨z, A1, n1, c1, A2, n2, c2, hf, ho1, ho2, rfl⟩
  · have HN := Lib.hid (not_whole' (b := b) (by rw [hf]; exact hz))
    have hz' : ((bad : Int) != 0) = true := by simp; omega
    clear hf hz
    obtain ⟨⟨q0, q1, q2, q3, q4, q5, q6, q7, q8, q9⟩, f0, f1, f2, f3, f4, f5, f6, f7, f8, f9⟩ := hR1.c10
    repeat' ((fail_if_success (with_reducible refine stop_append rfl ?_)); (fail_if_success (with_reducible refine stop_copy rfl ?_)); first | go_values | go_skip | go_guarded | go_step | go_upon | (simp only []; go_at_K))
    have N := ten [.int .i64 0, .int .i64 0, .int .i64 0, .int .i64 0, .int .i64 0, .int .i64 0, .int .i64 0, .int .i64 0, .bool false, .slice none 0 0] hR1 rfl U1 (by omega)
    simp only [setRow] at N
    generalize World.setCell _ ⟨w.heap.size, 9, none⟩ _ = W5 at N ⊢
    obtain ⟨hN, hU5⟩ := N
    clear q0 q1 q2 q3 q4 q5 q6 q7 q8 q9
    obtain ⟨⟨q0, q1, q2, q3, q4, q5, q6, q7, q8, q9⟩, -⟩ := hN.c10
    exact bodyPost_ret (v := .tuple #[.agg #[.int .i64 0, .int .i64 0, .int .i64 0, .int .i64 0, .int .i64 0, .int .i64 0, .int .i64 0, .int .i64 0, .bool false, .slice none 0 0], .iface 127 (.agg #[.int .i64 4])]) (by simp [results, Tryd.results23, go_sem, q0, q1, q2, q3, q4, q5, q6, q7, q8, q9]) rfl ⟨.inl ⟨HN.out, rfl⟩, hU5⟩
  · have hn2 := ho2.len
    by_cases h2 : 0 < n2
    · have HN := Lib.hid (not_whole (b := b) hf (by intro h; rw [h] at hn2; simp at hn2; omega))
      clear hf hn2
      obtain ⟨⟨q0, q1, q2, q3, q4, q5, q6, q7, q8, q9⟩, f0, f1, f2, f3, f4, f5, f6, f7, f8, f9⟩ := hR1.c10
      have h2' : (0 : Int) < (n2 : Int) := by omega
      repeat' ((fail_if_success (with_reducible refine stop_append rfl ?_)); (fail_if_success (with_reducible refine stop_copy rfl ?_)); first | go_values | go_skip | go_guarded | go_step | go_upon | (simp only []; go_at_K))
      have N := ten [.int .i64 0, .int .i64 0, .int .i64 0, .int .i64 0, .int .i64 0, .int .i64 0, .int .i64 0, .int .i64 0, .bool false, .slice none 0 0] hR1 rfl U1 (by omega)
      simp only [setRow] at N
      generalize World.setCell _ ⟨w.heap.size, 9, none⟩ _ = W5 at N ⊢
      obtain ⟨hN, hU5⟩ := N
      clear q0 q1 q2 q3 q4 q5 q6 q7 q8 q9
      obtain ⟨⟨q0, q1, q2, q3, q4, q5, q6, q7, q8, q9⟩, -⟩ := hN.c10
      exact bodyPost_ret (v := .tuple #[.agg #[.int .i64 0, .int .i64 0, .int .i64 0, .int .i64 0, .int .i64 0, .int .i64 0, .int .i64 0, .int .i64 0, .bool false, .slice none 0 0], .iface 127 (.agg #[.int .i64 4])]) (by simp [results, Tryd.results23, go_sem, q0, q1, q2, q3, q4, q5, q6, q7, q8, q9]) rfl ⟨.inl ⟨HN.out, rfl⟩, hU5⟩
    · obtain rfl : n2 = 0 := by omega
      have hfk := fst_ok hf
      have hW : Whole b := by
        have h3 : b.length = 8 + z := by have := hfk.2.1; have h4 := hn2; rw [List.length_drop] at h4; omega
        exact ⟨by rw [hf, h3]; simp, by omega⟩
      have hin : (b.drop 8).take z = b.drop 8 := by
        rw [List.take_of_length_le]
        have := hn2; rw [List.length_drop] at this ⊢; omega
      rw [hin] at ho1
      have HW : Hid (∀ (W : World) (x : Mv), decI (b.drop 8) = some x.ms → OwnB 5 W x.A x.n x.c x.b → NDec b W (.returned (.tuple #[.agg #[.int .i64 x.k, .int .i64 x.f, .int .i64 x.t, .int .i64 x.s, .int .i64 x.br, .int .i64 x.bs, .int .i64 x.hr, .int .i64 x.hs, .bool x.so, .slice x.A x.n x.c], .nilIface]))) := fun W x h1 h2 => .inr (.inr ⟨x, hW, h1, h2, rfl⟩)
      have hil : (b.drop 8).length ≤ 140737488355328 := by simp; omega
      have HNO : Hid (decI (b.drop 8) = none → ∀ W, NDec b W (.returned (.tuple #[.agg #[.int .i64 0, .int .i64 0, .int .i64 0, .int .i64 0, .int .i64 0, .int .i64 0, .int .i64 0, .int .i64 0, .bool false, .slice none 0 0], .iface 127 (.agg #[.int .i64 2])]))) := fun h W => .inr (.inl ⟨hW, h, rfl⟩)
      clear hf hfk hin hn2 h2 ho2 hW
      generalize b.drop 8 = bi at *
      repeat' ((fail_if_success (with_reducible refine stop_append rfl ?_)); (fail_if_success (with_reducible refine stop_copy rfl ?_)); first | go_values | go_skip | go_guarded | go_step | go_upon | (simp only []; go_at_K))
      ((with_reducible refine (wireFrom w1 A1 n1 c1 bi ho1.rd hil).mono ?_); rintro e w2 ⟨g, A3, k3, c3, rfl, hr2, hu2⟩)
      have hR2 := hR1.upd hu2 (by simp)
      have U2 : Upd [] [g] w w2 := (U1.trans hu2).gives (by intro j hj; simp at hj; subst hj; exact .inr (by have := hu2.fresh j (by simp); simp at this; omega))
      have hgw : w.heap.size < g := by have := hu2.fresh g (by simp); simp at this; omega
      clear hR1 U1 hu2 ho1
      repeat' ((fail_if_success (with_reducible refine stop_append rfl ?_)); (fail_if_success (with_reducible refine stop_copy rfl ?_)); first | go_values | go_skip | go_guarded | go_step | go_upon | (simp only []; go_at_K))
      have hH3 : Blk (((w2.alloc (.cells #[.pointer (some ⟨g, 0, none⟩)] 128)).alloc (.cells #[.int .i64 0, .int .i64 0, .int .i64 0, .int .i64 0, .int .i64 0, .int .i64 0, .int .i64 0, .int .i64 0, .bool false, .slice none 0 0] 56)).alloc (.cells #[.int .i64 0] 3)) w2.heap.size 128 #[.pointer (some ⟨g, 0, none⟩)] := ((Blk.new _ _ _).alloc _).alloc _
      have hM3 := (Blk.new (w2.alloc (.cells #[.pointer (some ⟨g, 0, none⟩)] 128)) 56 (mC []).toArray).alloc (.cells #[.int .i64 0] 3)
      have hS3 := Blk.new ((w2.alloc (.cells #[.pointer (some ⟨g, 0, none⟩)] 128)).alloc (.cells (mC []).toArray 56)) 3 #[.int .i64 0]
      simp only [World.size_alloc] at hM3 hS3
      have hR3 := ((hR2.alloc (.cells #[.pointer (some ⟨g, 0, none⟩)] 128)).alloc (.cells (mC []).toArray 56)).alloc (.cells #[.int .i64 0] 3)
      have hr3 : Rr (((w2.alloc (.cells #[.pointer (some ⟨g, 0, none⟩)] 128)).alloc (.cells (mC []).toArray 56)).alloc (.cells #[.int .i64 0] 3)) g A3 k3 c3 bi 0 := ⟨((hr2.blk.alloc _).alloc _).alloc _, ((hr2.own.alloc _).alloc _).alloc _, hr2.le⟩
      have U3 : Upd [] [g, w2.heap.size + 1, w2.heap.size + 1 + 1] w (((w2.alloc (.cells #[.pointer (some ⟨g, 0, none⟩)] 128)).alloc (.cells (mC []).toArray 56)).alloc (.cells #[.int .i64 0] 3)) := (((U2.alloc _).alloc _).alloc _).gives (by have := U2.size; intro j hj; simp at hj; rcases hj with rfl | rfl | rfl <;> right <;> omega)
      have hsz := U2.size
      have hgl := hr2.blk.lt
      have hwl := hR2.lt
      have T := netThroughD _ (w2.heap.size + 1) (w2.heap.size + 1 + 1) w2.heap.size g A3 k3 c3 bi hr3 hH3 hM3 hS3 hil
      clear hr2 hR2 U2 hH3 hM3 hS3 hr3
      refine T.mono ?_
      rintro e w4 ⟨hT, hu4⟩
      have hR4 := hR3.upd hu4 (by simp; omega)
      have U4 := U3.trans hu4
      clear T hR3 U3 hu4
      rcases hT with ⟨hno, rfl⟩ | ⟨l, a, hn, hl, rfl, hr4, hM4, hS4, hH4⟩
      · have HD := Lib.hid (HNO.out (decI_none (deci_none (body_nums hno))))
        have U4 := U4.gives (b' := []) (by simp)
        clear hno
        obtain ⟨⟨q0, q1, q2, q3, q4, q5, q6, q7, q8, q9⟩, f0, f1, f2, f3, f4, f5, f6, f7, f8, f9⟩ := hR4.c10
        repeat' ((fail_if_success (with_reducible refine stop_append rfl ?_)); (fail_if_success (with_reducible refine stop_copy rfl ?_)); first | go_values | go_skip | go_guarded | go_step | go_upon | (simp only []; go_at_K))
        have N := ten [.int .i64 0, .int .i64 0, .int .i64 0, .int .i64 0, .int .i64 0, .int .i64 0, .int .i64 0, .int .i64 0, .bool false, .slice none 0 0] hR4 rfl U4 (by omega)
        simp only [setRow] at N
        generalize World.setCell _ ⟨w.heap.size, 9, none⟩ _ = W5 at N ⊢
        obtain ⟨hN, hU5⟩ := N
        clear q0 q1 q2 q3 q4 q5 q6 q7 q8 q9
        obtain ⟨⟨q0, q1, q2, q3, q4, q5, q6, q7, q8, q9⟩, -⟩ := hN.c10
        exact bodyPost_ret (v := .tuple #[.agg #[.int .i64 0, .int .i64 0, .int .i64 0, .int .i64 0, .int .i64 0, .int .i64 0, .int .i64 0, .int .i64 0, .bool false, .slice none 0 0], .iface 127 (.agg #[.int .i64 2])]) (by simp [results, Tryd.results23, go_sem, q0, q1, q2, q3, q4, q5, q6, q7, q8, q9]) rfl ⟨HD.out W5, hU5⟩
      · obtain ⟨n0, n1, n2, n3, n4, n5, n6, n7, n8, rfl⟩ := nine_of hl
        clear hl
        have hS4 : Blk w4 (w2.heap.size + 1 + 1) 3 #[.int .i64 (n8 : Int)] := hS4
        have hM4 : Blk w4 (w2.heap.size + 1) 56 #[.int .i64 (n0 : Int), .int .i64 (n1 : Int), .int .i64 (n2 : Int), .int .i64 (n3 : Int), .int .i64 (n4 : Int), .int .i64 (n5 : Int), .int .i64 (n6 : Int), .int .i64 (n7 : Int), .bool false, .slice none 0 0] := hM4
        have s0 := hS4.cell 0
        simp only [List.getElem?_toArray, List.getElem?_cons_zero] at s0
        by_cases h8 : 1 < n8
        · have HD := Lib.hid (HNO.out (decI_big hn h8))
          have h8' : (1 : Int) < (n8 : Int) := by omega
          have U4 := U4.gives (b' := []) (by simp)
          clear hn hr4 hM4 hH4
          obtain ⟨⟨q0, q1, q2, q3, q4, q5, q6, q7, q8, q9⟩, f0, f1, f2, f3, f4, f5, f6, f7, f8, f9⟩ := hR4.c10
          repeat' ((fail_if_success (with_reducible refine stop_append rfl ?_)); (fail_if_success (with_reducible refine stop_copy rfl ?_)); first | go_values | go_skip | go_guarded | go_step | go_upon | (simp only []; go_at_K))
          have N := ten [.int .i64 0, .int .i64 0, .int .i64 0, .int .i64 0, .int .i64 0, .int .i64 0, .int .i64 0, .int .i64 0, .bool false, .slice none 0 0] hR4 rfl U4 (by omega)
          simp only [setRow] at N
          generalize World.setCell _ ⟨w.heap.size, 9, none⟩ _ = W5 at N ⊢
          obtain ⟨hN, hU5⟩ := N
          clear q0 q1 q2 q3 q4 q5 q6 q7 q8 q9
          obtain ⟨⟨q0, q1, q2, q3, q4, q5, q6, q7, q8, q9⟩, -⟩ := hN.c10
          exact bodyPost_ret (v := .tuple #[.agg #[.int .i64 0, .int .i64 0, .int .i64 0, .int .i64 0, .int .i64 0, .int .i64 0, .int .i64 0, .int .i64 0, .bool false, .slice none 0 0], .iface 127 (.agg #[.int .i64 2])]) (by simp [results, Tryd.results23, go_sem, q0, q1, q2, q3, q4, q5, q6, q7, q8, q9]) rfl ⟨HD.out W5, hU5⟩
        · have h8' : (n8 : Int) ≤ 1 := by omega
          have hh0 := hH4.cell 0
          simp only [List.getElem?_toArray, List.getElem?_cons_zero] at hh0
          have C := readerBytes w4 g A3 k3 c3 bi a 2048 (by unfold I64; omega) hr4 hil
          obtain ⟨v, sz, bad, hu⟩ : ∃ v sz bad, tk 2048 (bi.drop a) = (v, sz, bad) := ⟨_, _, _, rfl⟩
          have HT := Lib.hid (body_tk hn hu)
          rw [hu] at C
          clear hn hu hr4
          by_cases hz : bad = 0
          · subst hz
            simp only [flt_zero] at C
            repeat' ((fail_if_success (with_reducible refine stop_append rfl ?_)); (fail_if_success (with_reducible refine stop_copy rfl ?_)); first | go_values | go_skip | go_guarded | go_step | go_upon | (simp only []; go_at_K))
            ((with_reducible refine C.mono ?_); rintro e w5 ⟨A5, k5, c5, rfl, ho5, hr5, hu5⟩)
            have hR5 := hR4.upd hu5 (by simp; omega)
            have hM5 := hM4.upd hu5 (by simp; omega)
            have hS5 := hS4.upd hu5 (by simp; omega)
            have hH5 := hH4.upd hu5 (by simp; omega)
            have U5 : Upd [] [w2.heap.size + 1] w w5 := (U4.trans (hu5.mono (a' := [g, w2.heap.size + 1, w2.heap.size + 1 + 1]) (b' := [w2.heap.size + 1]) (by simp) (by intro j hj; simp at hj; subst hj; exact .inr (.inl (by simp)))))
            clear C hR4 hM4 hS4 hH4 U4 hu5 s0 hh0
            have s0 := hS5.cell 0
            have hh0 := hH5.cell 0
            simp only [List.getElem?_toArray, List.getElem?_cons_zero] at s0 hh0
            have D := readerEnd w5 g A3 k3 c3 bi (a + sz) hr5 hil
            have hle : a + sz ≤ bi.length := hr5.le
            by_cases he : a + sz < bi.length
            · rw [if_pos he, flt_pos (by decide)] at D
              have HD := Lib.hid (HNO.out (decI_none (deci_none (b := bi) (by rw [HT.out, if_neg (by omega)]))))
              have U5 := U5.gives (b' := []) (by simp)
              clear HT he hle hM5 hr5
              repeat' ((fail_if_success (with_reducible refine stop_append rfl ?_)); (fail_if_success (with_reducible refine stop_copy rfl ?_)); first | go_values | go_skip | go_guarded | go_step | go_upon | (simp only []; go_at_K))
              ((with_reducible refine D.mono ?_); rintro e w6 ⟨rfl, nq, rfl⟩)
              have hR6 := hR5.drewN nq
              have U6 := U5.drewN nq
              clear D hR5 U5 s0 hh0 hS5 hH5
              obtain ⟨⟨q0, q1, q2, q3, q4, q5, q6, q7, q8, q9⟩, f0, f1, f2, f3, f4, f5, f6, f7, f8, f9⟩ := hR6.c10
              repeat' ((fail_if_success (with_reducible refine stop_append rfl ?_)); (fail_if_success (with_reducible refine stop_copy rfl ?_)); first | go_values | go_skip | go_guarded | go_step | go_upon | (simp only []; go_at_K))
              have N := ten [.int .i64 0, .int .i64 0, .int .i64 0, .int .i64 0, .int .i64 0, .int .i64 0, .int .i64 0, .int .i64 0, .bool false, .slice none 0 0] hR6 rfl U6 (by omega)
              simp only [setRow] at N
              generalize World.setCell _ ⟨w.heap.size, 9, none⟩ _ = W5 at N ⊢
              obtain ⟨hN, hU5⟩ := N
              clear q0 q1 q2 q3 q4 q5 q6 q7 q8 q9
              obtain ⟨⟨q0, q1, q2, q3, q4, q5, q6, q7, q8, q9⟩, -⟩ := hN.c10
              exact bodyPost_ret (v := .tuple #[.agg #[.int .i64 0, .int .i64 0, .int .i64 0, .int .i64 0, .int .i64 0, .int .i64 0, .int .i64 0, .int .i64 0, .bool false, .slice none 0 0], .iface 127 (.agg #[.int .i64 2])]) (by simp [results, Tryd.results23, go_sem, q0, q1, q2, q3, q4, q5, q6, q7, q8, q9]) rfl ⟨HD.out W5, hU5⟩
            · rw [if_neg he, flt_zero] at D
              have hbd : body bi ms9 = some ([n0, n1, n2, n3, n4, n5, n6, n7, n8], v) := by rw [HT.out, if_pos ⟨rfl, by omega⟩]
              clear HT he hle
              repeat' ((fail_if_success (with_reducible refine stop_append rfl ?_)); (fail_if_success (with_reducible refine stop_copy rfl ?_)); first | go_values | go_skip | go_guarded | go_step | go_upon | (simp only []; go_at_K))
              ((with_reducible refine D.mono ?_); rintro e w6 ⟨rfl, nq, rfl⟩)
              obtain ⟨so, hso⟩ : ∃ so : Bool, ((n8 : Int) == 1) = so := ⟨_, rfl⟩
              have hso' : so = decide (n8 = 1) := by rw [← hso, Bool.eq_iff_iff]; simp; omega
              obtain ⟨x, hx⟩ : ∃ x : Mv, x = ⟨n0, n1, n2, n3, n4, n5, n6, n7, so, A5, k5, c5, v⟩ := ⟨_, rfl⟩
              have hxm : x.ms = Ms.of n0 n1 n2 n3 n4 n5 n6 n7 n8 v := by rw [hx]; unfold Mv.ms Ms.of; rw [hso']
              obtain ⟨hby, huniq⟩ := deci_body hbd
              have hby := hby (by omega)
              rw [← hxm] at hby huniq
              have hno : ¬ x.ms.May → decI bi = none := fun h => decI_none fun m hm => h (by rw [← (huniq m hm).2]; exact hm.1)
              have hyes : x.ms.May → decI bi = some x.ms := fun h => decI_some ⟨h, hby⟩
              have HNO2 := Lib.hid hno
              have HYES := Lib.hid hyes
              have HNO3 := HNO
              clear hno hyes huniq hby hbd hxm hso' h8' h8 HNO
              have hxa : (Value.agg #[.int .i64 (n0 : Int), .int .i64 (n1 : Int), .int .i64 (n2 : Int), .int .i64 (n3 : Int), .int .i64 (n4 : Int), .int .i64 (n5 : Int), .int .i64 (n6 : Int), .int .i64 (n7 : Int), .bool so, .slice A5 k5 c5]) = x.val := by rw [hx]; rfl
              have hxs : (#[.int .i64 (n0 : Int), .int .i64 (n1 : Int), .int .i64 (n2 : Int), .int .i64 (n3 : Int), .int .i64 (n4 : Int), .int .i64 (n5 : Int), .int .i64 (n6 : Int), .int .i64 (n7 : Int), .bool so, .slice A5 k5 c5] : Array Value) = #[.int .i64 x.k, .int .i64 x.f, .int .i64 x.t, .int .i64 x.s, .int .i64 x.br, .int .i64 x.bs, .int .i64 x.hr, .int .i64 x.hs, .bool x.so, .slice x.A x.n x.c] := by rw [hx]
              have hox : OwnB 5 w5 x.A x.n x.c x.b := by rw [hx]; exact ho5
              have HXA := Lib.hid hxa
              clear hx hxa ho5 D s0 hh0
              have hM6 := hM5.drewN nq
              have hS6 := hS5.drewN nq
              obtain ⟨⟨m0, m1, m2, m3, m4, m5, m6, m7, m8, m9⟩, -, -, -, -, -, -, -, -, g8, g9⟩ := hM6.c10
              have s0 := hS6.cell 0
              simp only [List.getElem?_toArray, List.getElem?_cons_zero] at s0
              have hmR : w2.heap.size + 1 ≠ w.heap.size := by omega
              repeat' ((fail_if_success (with_reducible refine stop_append rfl ?_)); (fail_if_success (with_reducible refine stop_copy rfl ?_)); first | go_values | go_skip | go_guarded | go_step | go_upon | (simp only []; go_at_K))
              clear m0 m1 m2 m3 m4 m5 m6 m7 m8 m9 g8 g9 s0
              have hM7 := (hM6.set_ 8 (.bool so)).set_ 9 (.slice A5 k5 c5)
              have hR7 := ((hR5.drewN nq).far (p := ⟨w2.heap.size + 1, 8, none⟩) (by simp; omega) (.bool so)).far (p := ⟨w2.heap.size + 1, 9, none⟩) (by simp; omega) (.slice A5 k5 c5)
              have U7 := ((U5.drewN nq).setCell (p := ⟨w2.heap.size + 1, 8, none⟩) (.inr (by simp; omega)) (.bool so)).setCell (p := ⟨w2.heap.size + 1, 9, none⟩) (.inr (by simp; omega)) (.slice A5 k5 c5)
              have hne : ∀ j ∈ ablk x.A, j ∉ [w2.heap.size + 1] := by intro j hj; simp; rintro rfl; exact hox.own.ne hM5 (by decide) hj
              have ho7 := OwnB.upd (w := w5.drewN nq) ⟨hox.len, hox.own.drewN nq⟩ (((Upd.refl [w2.heap.size + 1] (w5.drewN nq)).setCell (p := ⟨w2.heap.size + 1, 8, none⟩) (.inl (by simp)) (.bool so)).setCell (p := ⟨w2.heap.size + 1, 9, none⟩) (.inl (by simp)) (.slice A5 k5 c5)) hne
              have hM7 : Blk (((w5.drewN nq).setCell ⟨w2.heap.size + 1, 8, none⟩ (.bool so)).setCell ⟨w2.heap.size + 1, 9, none⟩ (.slice A5 k5 c5)) (w2.heap.size + 1) 56 #[.int .i64 x.k, .int .i64 x.f, .int .i64 x.t, .int .i64 x.s, .int .i64 x.br, .int .i64 x.bs, .int .i64 x.hr, .int .i64 x.hs, .bool x.so, .slice x.A x.n x.c] := by rw [← hxs]; exact hM7
              clear hM6 hM5 hR5 U5 hox hne hS6 hS5 hH5 hr5 hxs
              generalize World.setCell _ ⟨w2.heap.size + 1, 9, none⟩ _ = W7 at *
              by_cases hmay : x.ms.May
              · have HYES := HYES.out hmay
                have HD := fun W h => HW.out W x HYES h
                have HD := Lib.hid HD
                have E := netMay_yes x W7 ho7.rd hmay
                rw [Mv.val_eq] at E
                clear HYES HNO2 HW hmay
                ((with_reducible refine E.mono ?_); rintro e w8 ⟨rfl, hu8⟩)
                have hR8 := hR7.upd hu8 (by simp)
                have hM8 := hM7.upd hu8 (by simp)
                have ho8 := ho7.upd hu8 (by simp)
                have U8 := (U7.gives (b' := []) (by simp)).trans hu8
                clear hR7 hM7 ho7 U7 hu8 E
                have hne : ∀ j ∈ ablk x.A, j ∉ [w.heap.size] := by intro j hj; simp; rintro rfl; exact ho8.own.ne hR8 (by decide) hj
                obtain ⟨⟨m0, m1, m2, m3, m4, m5, m6, m7, m8, m9⟩, -⟩ := hM8.c10
                obtain ⟨⟨q0, q1, q2, q3, q4, q5, q6, q7, q8, q9⟩, f0, f1, f2, f3, f4, f5, f6, f7, f8, f9⟩ := hR8.c10
                repeat' ((fail_if_success (with_reducible refine stop_append rfl ?_)); (fail_if_success (with_reducible refine stop_copy rfl ?_)); first | go_values | go_skip | go_guarded | go_step | go_upon | (simp only []; go_at_K))
                have N := ten [.int .i64 x.k, .int .i64 x.f, .int .i64 x.t, .int .i64 x.s, .int .i64 x.br, .int .i64 x.bs, .int .i64 x.hr, .int .i64 x.hs, .bool x.so, .slice x.A x.n x.c] hR8 rfl U8 (by omega)
                have N2 := rowSet [.int .i64 x.k, .int .i64 x.f, .int .i64 x.t, .int .i64 x.s, .int .i64 x.br, .int .i64 x.bs, .int .i64 x.hr, .int .i64 x.hs, .bool x.so, .slice x.A x.n x.c] hR8 rfl (Upd.refl [w.heap.size] w8) (.inl (by simp))
                have ho9 := ho8.upd N2.2 hne
                clear N2
                simp only [setRow] at N ho9
                generalize World.setCell _ ⟨w.heap.size, 9, none⟩ _ = W5 at N ho9 ⊢
                obtain ⟨hN, hU5⟩ := N
                clear q0 q1 q2 q3 q4 q5 q6 q7 q8 q9
                obtain ⟨⟨q0, q1, q2, q3, q4, q5, q6, q7, q8, q9⟩, -⟩ := hN.c10
                exact bodyPost_ret (v := .tuple #[.agg #[.int .i64 x.k, .int .i64 x.f, .int .i64 x.t, .int .i64 x.s, .int .i64 x.br, .int .i64 x.bs, .int .i64 x.hr, .int .i64 x.hs, .bool x.so, .slice x.A x.n x.c], .nilIface]) (by simp [results, Tryd.results23, go_sem, q0, q1, q2, q3, q4, q5, q6, q7, q8, q9]) rfl ⟨HD.out W5 ho9, hU5⟩
              · have HD := Lib.hid (HNO3.out (HNO2.out hmay))
                have E := netMay_no x W7 ho7.rd hmay
                rw [Mv.val_eq] at E
                clear HYES HNO2 HW hmay
                ((with_reducible refine E.mono ?_); rintro e w8 ⟨rfl, hu8⟩)
                have hR8 := hR7.upd hu8 (by simp)
                have U8 := (U7.gives (b' := []) (by simp)).trans hu8
                clear hR7 hM7 ho7 U7 hu8 E
                obtain ⟨⟨q0, q1, q2, q3, q4, q5, q6, q7, q8, q9⟩, f0, f1, f2, f3, f4, f5, f6, f7, f8, f9⟩ := hR8.c10
                repeat' ((fail_if_success (with_reducible refine stop_append rfl ?_)); (fail_if_success (with_reducible refine stop_copy rfl ?_)); first | go_values | go_skip | go_guarded | go_step | go_upon | (simp only []; go_at_K))
                have N := ten [.int .i64 0, .int .i64 0, .int .i64 0, .int .i64 0, .int .i64 0, .int .i64 0, .int .i64 0, .int .i64 0, .bool false, .slice none 0 0] hR8 rfl U8 (by omega)
                simp only [setRow] at N
                generalize World.setCell _ ⟨w.heap.size, 9, none⟩ _ = W5 at N ⊢
                obtain ⟨hN, hU5⟩ := N
                clear q0 q1 q2 q3 q4 q5 q6 q7 q8 q9
                obtain ⟨⟨q0, q1, q2, q3, q4, q5, q6, q7, q8, q9⟩, -⟩ := hN.c10
                exact bodyPost_ret (v := .tuple #[.agg #[.int .i64 0, .int .i64 0, .int .i64 0, .int .i64 0, .int .i64 0, .int .i64 0, .int .i64 0, .int .i64 0, .bool false, .slice none 0 0], .iface 127 (.agg #[.int .i64 2])]) (by simp [results, Tryd.results23, go_sem, q0, q1, q2, q3, q4, q5, q6, q7, q8, q9]) rfl ⟨HD.out W5, hU5⟩
          · have HD := Lib.hid (HNO.out (decI_none (deci_none (b := bi) (by rw [HT.out, if_neg (by simp [hz])]))))
            simp only [flt_pos hz] at C
            clear HT
            repeat' ((fail_if_success (with_reducible refine stop_append rfl ?_)); (fail_if_success (with_reducible refine stop_copy rfl ?_)); first | go_values | go_skip | go_guarded | go_step | go_upon | (simp only []; go_at_K))
            ((with_reducible refine C.mono ?_); rintro e w5 ⟨A5, k5, c5, rfl, ho5, hr5, hu5⟩)
            have hR5 := hR4.upd hu5 (by simp; omega)
            have U5 := (U4.trans (hu5.mono (a' := [g, w2.heap.size + 1, w2.heap.size + 1 + 1]) (b' := []) (by simp) (by simp)))
            clear C hR4 hM4 hS4 hH4 U4 hu5 s0 hh0 ho5 hr5
            obtain ⟨⟨q0, q1, q2, q3, q4, q5, q6, q7, q8, q9⟩, f0, f1, f2, f3, f4, f5, f6, f7, f8, f9⟩ := hR5.c10
            repeat' ((fail_if_success (with_reducible refine stop_append rfl ?_)); (fail_if_success (with_reducible refine stop_copy rfl ?_)); first | go_values | go_skip | go_guarded | go_step | go_upon | (simp only []; go_at_K))
            have N := ten [.int .i64 0, .int .i64 0, .int .i64 0, .int .i64 0, .int .i64 0, .int .i64 0, .int .i64 0, .int .i64 0, .bool false, .slice none 0 0] hR5 rfl U5 (by omega)
            simp only [setRow] at N
            generalize World.setCell _ ⟨w.heap.size, 9, none⟩ _ = W5 at N ⊢
            obtain ⟨hN, hU5⟩ := N
            clear q0 q1 q2 q3 q4 q5 q6 q7 q8 q9
            obtain ⟨⟨q0, q1, q2, q3, q4, q5, q6, q7, q8, q9⟩, -⟩ := hN.c10
            exact bodyPost_ret (v := .tuple #[.agg #[.int .i64 0, .int .i64 0, .int .i64 0, .int .i64 0, .int .i64 0, .int .i64 0, .int .i64 0, .int .i64 0, .bool false, .slice none 0 0], .iface 127 (.agg #[.int .i64 2])]) (by simp [results, Tryd.results23, go_sem, q0, q1, q2, q3, q4, q5, q6, q7, q8, q9]) rfl ⟨HD.out W5, hU5⟩
end Go.Proofs.YtdmkhmejpgjioaaDoor
