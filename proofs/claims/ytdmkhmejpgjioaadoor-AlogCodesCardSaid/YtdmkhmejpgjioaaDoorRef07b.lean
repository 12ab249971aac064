/- Records: agioref07.Decode. -/
import Derived.Test.YtdmkhmejpgjioaaDoorRef07
import Derived.Test.YtdmkhmejpgjioaaDoorTake
import Derived.Test.YtdmkhmejpgjioaaDoorAlog3
set_option linter.all false
namespace Go.Proofs.YtdmkhmejpgjioaaDoor
open Go.RowKit Agio

/-- What agioref07.Decode tells. -/
def RDec (b : List UInt8) (w : World) (e : Ending) : Prop :=
  (decR b = none ∧ e = .returned (.tuple #[.agg #[.int .i64 0, .int .i64 0, .int .i64 0, .int .i64 0, .slice none 0 0], .int .i64 2])) ∨
  ∃ x : Rv, decR b = some x.rc ∧ OwnB 5 w x.A x.n x.c x.b ∧ e = .returned (.tuple #[.agg #[.int .i64 x.k, .int .i64 x.s, .int .i64 x.r, .int .i64 x.t, .slice x.A x.n x.c], .int .i64 0])
theorem msB_get {i : Nat} (h : i < 4) : msB[i]? = some 1099511627776 := by
  have : i = 0 ∨ i = 1 ∨ i = 2 ∨ i = 3 := by omega
  rcases this with rfl | rfl | rfl | rfl <;> rfl

set_option maxRecDepth 100000 in
set_option maxHeartbeats 4000000 in
theorem ref07Decode (w : World) (B : Option Addr) (m d : Nat) (b : List UInt8) (hB : RdB w B m b) (hmd : m ≤ d) (hd : d ≤ maxLen) (hb : b.length ≤ 140737488355328) :
    Calls Tryd.prog 18 #[.slice B m d] w fun e w' => RDec b w' e ∧ Upd [] [] w w' := by
  have hR0 := (Blk.new w 48 #[.int .i64 0, .int .i64 0, .int .i64 0, .int .i64 0, .slice none 0 0]).alloc (.cells #[.int .i64 0, .int .i64 0, .int .i64 0, .int .i64 0] 105)
  have hG0 : Blk ((w.alloc (.cells #[.int .i64 0, .int .i64 0, .int .i64 0, .int .i64 0, .slice none 0 0] 48)).alloc (.cells #[.int .i64 0, .int .i64 0, .int .i64 0, .int .i64 0] 105)) (w.heap.size + 1) 105 (fourC []).toArray := by
    have := Blk.new (w.alloc (.cells #[.int .i64 0, .int .i64 0, .int .i64 0, .int .i64 0, .slice none 0 0] 48)) 105 (fourC []).toArray
    rwa [World.size_alloc] at this
  have U0 := ((Upd.refl [] w).alloc (.cells #[.int .i64 0, .int .i64 0, .int .i64 0, .int .i64 0, .slice none 0 0] 48)).alloc (.cells #[.int .i64 0, .int .i64 0, .int .i64 0, .int .i64 0] 105)
  have HMD := Lib.hid hmd; clear hmd
  have HD := Lib.hid hd; clear hd
  go_enter Tryd.func18, Tryd.ntmps18
  repeat' ((fail_if_success (with_reducible refine stop_append rfl ?_)); (fail_if_success (with_reducible refine stop_copy rfl ?_)); first | go_values | go_skip | go_guarded | go_step | go_upon | (simp only []; go_at_K))
  go_loopw [5, 6, 7, 8, 9] (fun v5 v6 _ _ _ wr => ∃ (l : List Nat) (a : Nat), l.length ≤ 4 ∧ v6 = .int .i64 (l.length : Int) ∧ v5 = .int .i64 (a : Int) ∧ NumSt b msB l a ∧ Blk wr (w.heap.size + 1) 105 (fourC l).toArray ∧ Blk wr w.heap.size 48 #[.int .i64 0, .int .i64 0, .int .i64 0, .int .i64 0, .slice none 0 0] ∧ Upd [] [] w wr)
    (fun _ v6 _ _ _ _ => 4 - (intOf v6).toNat)
  case atStart => exact ⟨[], 0, by simp, rfl, rfl, NumSt.zero _ _, hG0, hR0, U0⟩
  case round =>
    clear hG0 hR0 U0
    obtain ⟨l, a, hl4, rfl, rfl, hst, hG, hR, U⟩ := hrel
    have hBr := hB.upd U (by simp)
    have hab := hst.2
    by_cases hlt : l.length < 4
    · have hmo := msB_get hlt
      have C := refSmall wr B m d b hBr hb a hab 1099511627776 (by unfold I64; omega)
      obtain ⟨n, sz, bad, hu⟩ : ∃ n sz bad, upt 1099511627776 (b.drop a) = (n, sz, bad) := ⟨_, _, _, rfl⟩
      rw [hu] at C
      by_cases hz : bad = 0
      · subst hz
        have hmore := hst.more hmo hu
        have hsl : a + sz ≤ 140737488355328 := Nat.le_trans hmore.2 hb
        have HN := Lib.hid hmore
        have HFS := Lib.hid (fourC_set hlt n)
        obtain ⟨y0, y1, y2, y3, hy⟩ := fourC_ex hl4
        have hi4 : l.length = 0 ∨ l.length = 1 ∨ l.length = 2 ∨ l.length = 3 := by omega
        have hGn : (∃ y, wr.cell? ⟨w.heap.size + 1, l.length, none⟩ = some (.int .i64 y)) ∧ wr.frozen? ⟨w.heap.size + 1, l.length, none⟩ = false := by
          refine ⟨?_, hG.frozen _⟩
          have hW := hG
          rw [hy] at hW
          rcases hi4 with h | h | h | h <;> rw [h]
          · exact ⟨y0, hW.cell 0⟩
          · exact ⟨y1, hW.cell 1⟩
          · exact ⟨y2, hW.cell 2⟩
          · exact ⟨y3, hW.cell 3⟩
        obtain ⟨⟨y, hcy⟩, hfy⟩ := hGn
        clear hmore hst hmo hu hy hi4
        repeat' ((fail_if_success (with_reducible refine stop_append rfl ?_)); (fail_if_success (with_reducible refine stop_copy rfl ?_)); first | go_values | go_skip | go_guarded | go_step | go_upon | (simp only []; go_at_K))
        ((with_reducible refine C.mono ?_); rintro e w2 ⟨rfl, rfl⟩)
        clear C hab
        repeat' ((fail_if_success (with_reducible refine stop_append rfl ?_)); (fail_if_success (with_reducible refine stop_copy rfl ?_)); first | go_values | go_skip | go_guarded | go_step | go_upon | (simp only []; go_at_K))
        refine ⟨⟨l ++ [n], a + sz, by simp; omega, by simp, by simp, HN.out, ?_, hR.far (by simp) _, U.setCell (.inr (by simp)) _⟩, by simp [intOf] <;> omega⟩
        rw [← HFS.out]; exact hG.set_ _ _
      · have HN := Lib.hid (body_nums (hst.bad hmo hu hz))
        have hzi : ((bad : Int) == 0) = false := by simp; omega
        have hzn : ((bad : Int) != 0) = true := by simp; omega
        clear hst hmo hu
        obtain ⟨⟨q0, q1, q2, q3, q4⟩, f0, f1, f2, f3, f4⟩ := hR.c5
        repeat' ((fail_if_success (with_reducible refine stop_append rfl ?_)); (fail_if_success (with_reducible refine stop_copy rfl ?_)); first | go_values | go_skip | go_guarded | go_step | go_upon | (simp only []; go_at_K))
        ((with_reducible refine C.mono ?_); rintro e w2 ⟨rfl, rfl⟩)
        clear C
        repeat' ((fail_if_success (with_reducible refine stop_append rfl ?_)); (fail_if_success (with_reducible refine stop_copy rfl ?_)); first | go_values | go_skip | go_guarded | go_step | go_upon | (simp only []; go_at_K))
        have N := rowSet [.int .i64 0, .int .i64 0, .int .i64 0, .int .i64 0, .slice none 0 0] hR rfl U (.inr (by omega))
        simp only [setRow] at N
        generalize World.setCell _ ⟨w.heap.size, 4, none⟩ _ = W5 at N ⊢
        obtain ⟨hN, hU5⟩ := N
        clear q0 q1 q2 q3 q4
        obtain ⟨⟨q0, q1, q2, q3, q4⟩, -⟩ := hN.c5
        exact bodyPost_ret (v := .tuple #[.agg #[.int .i64 0, .int .i64 0, .int .i64 0, .int .i64 0, .slice none 0 0], .int .i64 2]) (by simp [results, Tryd.results18, go_sem, q0, q1, q2, q3, q4]) rfl ⟨.inl ⟨decR_none (dec_none (.inr rfl) HN.out), rfl⟩, hU5⟩
    · obtain ⟨n0, n1, n2, n3, rfl⟩ := fourC_full (l := l) (by omega)
      have hN := hst.all (by rfl)
      clear hst hlt hl4
      have C := refTake wr B m d b hBr HMD.out HD.out hb a hab 2048 (by unfold I64; omega)
      obtain ⟨v, sz, bad, hu⟩ : ∃ v sz bad, tk 2048 (b.drop a) = (v, sz, bad) := ⟨_, _, _, rfl⟩
      have HT := Lib.hid (body_tk hN hu)
      rw [hu] at C
      have hG : Blk wr (w.heap.size + 1) 105 #[.int .i64 (n0 : Int), .int .i64 (n1 : Int), .int .i64 (n2 : Int), .int .i64 (n3 : Int)] := hG
      have hml := hB.len
      by_cases hz : bad = 0
      · subst hz
        have hk := (tk_once hu).2.2
        rw [List.length_drop] at hk
        by_cases he : a + sz = b.length
        · have HB := Lib.hid (show body b msB = some ([n0, n1, n2, n3], v) by rw [HT.out, if_pos ⟨rfl, he⟩])
          have hei : ((a : Int) + (sz : Int) == (m : Int)) = true := by rw [beq_iff_eq]; omega
          have hen : ((a : Int) + (sz : Int) != (m : Int)) = false := by rw [bne_eq_false_iff_eq]; omega
          have hsl : a + sz ≤ 140737488355328 := by omega
          clear hN hu hk he
          have HML := Lib.hid hml
          clear hml
          repeat' ((fail_if_success (with_reducible refine stop_append rfl ?_)); (fail_if_success (with_reducible refine stop_copy rfl ?_)); first | go_values | go_skip | go_guarded | go_step | go_upon | (simp only []; go_at_K))
          ((with_reducible refine C.mono ?_); rintro e w2 ⟨A2, k2, c2, rfl, ho2, hu2⟩)
          have hR2 := hR.upd hu2 (by simp)
          have hG2 := hG.upd hu2 (by simp)
          have U2 := (U.trans hu2).gives (b' := []) (by simp)
          obtain ⟨⟨s0, s1, s2, s3⟩, -⟩ := hG2.c4
          clear C hR hG U hu2 hab hBr
          repeat' ((fail_if_success (with_reducible refine stop_append rfl ?_)); (fail_if_success (with_reducible refine stop_copy rfl ?_)); first | go_values | go_skip | go_guarded | go_step | go_upon | (simp only []; go_at_K))
          obtain ⟨x, hx⟩ : ∃ x : Rv, x = ⟨n0, n1, n2, n3, A2, k2, c2, v⟩ := ⟨_, rfl⟩
          have M := ref07May x (w2.alloc (.cells #[.int .i64 (n0 : Int), .int .i64 (n1 : Int), .int .i64 (n2 : Int), .int .i64 (n3 : Int), .slice A2 k2 c2] 48)) (by rw [hx]; exact ho2.rd.alloc _)
          rw [Rv.val_eq] at M
          have hxc : x.rc = Rc.of n0 n1 n2 n3 v := by rw [hx]; rfl
          have hxo : OwnB 5 w2 x.A x.n x.c x.b := by rw [hx]; exact ho2
          have hxe : (#[.agg #[.int .i64 x.k, .int .i64 x.s, .int .i64 x.r, .int .i64 x.t, .slice x.A x.n x.c]] : Array Value) = #[.agg #[.int .i64 (n0 : Int), .int .i64 (n1 : Int), .int .i64 (n2 : Int), .int .i64 (n3 : Int), .slice A2 k2 c2]] := by rw [hx]
          rw [hxe] at M
          ((with_reducible refine M.mono ?_); rintro e w3 ⟨⟨y, rfl, hy⟩, hu3⟩)
          obtain ⟨hby, huniq⟩ := dec_body (.inr rfl) HB.out
          rw [← hxc] at hby huniq
          have hA3 := Upd.trans ((Upd.refl [] w2).alloc (.cells #[.int .i64 (n0 : Int), .int .i64 (n1 : Int), .int .i64 (n2 : Int), .int .i64 (n3 : Int), .slice A2 k2 c2] 48)) hu3
          have hT3 := (Blk.new w2 48 #[.int .i64 (n0 : Int), .int .i64 (n1 : Int), .int .i64 (n2 : Int), .int .i64 (n3 : Int), .slice A2 k2 c2]).upd hu3 (by simp)
          have hxo3 := hxo.upd hA3 (by simp)
          have hR3 := hR2.upd hA3 (by simp)
          have U3 := U2.trans hA3
          have hlR := hR2.lt
          have hg2 : w.heap.size ≠ w2.heap.size := by omega
          clear hxe M hxo hA3 hu3 U2 ho2 hG2 s0 s1 s2 s3
          obtain ⟨⟨t0, t1, t2, t3, t4⟩, -⟩ := hT3.c5
          obtain ⟨⟨q0, q1, q2, q3, q4⟩, f0, f1, f2, f3, f4⟩ := hR3.c5
          cases y with
          | false =>
            have HDN := Lib.hid (decR_none (b := b) (fun r hr => by have := huniq r hr; subst this; exact absurd (hy.2 hr.1) (by simp)))
            clear hy hby huniq hx hxc hxo3 HB HT
            have hR2 := hR3
            have U2 := U3
            have hlR := hR3.lt
            repeat' ((fail_if_success (with_reducible refine stop_append rfl ?_)); (fail_if_success (with_reducible refine stop_copy rfl ?_)); first | go_values | go_skip | go_guarded | go_step | go_upon | (simp only []; go_at_K))
            have N := rowSet [.int .i64 0, .int .i64 0, .int .i64 0, .int .i64 0, .slice none 0 0] hR2 rfl U2 (.inr (by omega))
            simp only [setRow] at N
            generalize World.setCell _ ⟨w.heap.size, 4, none⟩ _ = W5 at N ⊢
            obtain ⟨hN, hU5⟩ := N
            clear q0 q1 q2 q3 q4
            obtain ⟨⟨q0, q1, q2, q3, q4⟩, -⟩ := hN.c5
            exact bodyPost_ret (v := .tuple #[.agg #[.int .i64 0, .int .i64 0, .int .i64 0, .int .i64 0, .slice none 0 0], .int .i64 2]) (by simp [results, Tryd.results18, go_sem, q0, q1, q2, q3, q4]) rfl ⟨.inl ⟨HDN.out, rfl⟩, hU5⟩
          | true =>
            have HDS := Lib.hid (decR_some (b := b) (r := x.rc) ⟨hy.1 rfl, hby⟩)
            have HX := Lib.hid hx
            clear hy hby huniq hxc HB HT hx
            repeat' ((fail_if_success (with_reducible refine stop_append rfl ?_)); (fail_if_success (with_reducible refine stop_copy rfl ?_)); first | go_values | go_skip | go_guarded | go_step | go_upon | (simp only []; go_at_K))
            have N := rowSet [.int .i64 (n0 : Int), .int .i64 (n1 : Int), .int .i64 (n2 : Int), .int .i64 (n3 : Int), .slice A2 k2 c2] hR3 rfl U3 (.inr (by omega))
            have N2 := rowSet [.int .i64 (n0 : Int), .int .i64 (n1 : Int), .int .i64 (n2 : Int), .int .i64 (n3 : Int), .slice A2 k2 c2] hR3 rfl (Upd.refl [w.heap.size] w3) (.inl (by simp))
            have ho5 := hxo3.upd N2.2 (fun j hj => by simp; rintro rfl; exact hxo3.own.ne hR3 (by decide) hj)
            clear N2
            simp only [setRow] at N ho5
            generalize World.setCell _ ⟨w.heap.size, 4, none⟩ _ = W5 at N ho5 ⊢
            obtain ⟨hN, hU5⟩ := N
            clear q0 q1 q2 q3 q4
            obtain ⟨⟨q0, q1, q2, q3, q4⟩, -⟩ := hN.c5
            exact bodyPost_ret (v := .tuple #[.agg #[.int .i64 (n0 : Int), .int .i64 (n1 : Int), .int .i64 (n2 : Int), .int .i64 (n3 : Int), .slice A2 k2 c2], .int .i64 0]) (by simp [results, Tryd.results18, go_sem, q0, q1, q2, q3, q4]) rfl ⟨.inr ⟨x, HDS.out, ho5, by rw [HX.out]⟩, hU5⟩
        · have HDN := Lib.hid (decR_none (dec_none (.inr rfl) (show body b msB = none by rw [HT.out, if_neg (by omega)])))
          have hei : ((a : Int) + (sz : Int) == (m : Int)) = false := by rw [beq_eq_false_iff_ne]; omega
          have hen : ((a : Int) + (sz : Int) != (m : Int)) = true := by rw [bne_iff_ne]; omega
          have hsl : a + sz ≤ 140737488355328 := by omega
          have HML := Lib.hid hml
          clear hN hu hk he HT hml
          repeat' ((fail_if_success (with_reducible refine stop_append rfl ?_)); (fail_if_success (with_reducible refine stop_copy rfl ?_)); first | go_values | go_skip | go_guarded | go_step | go_upon | (simp only []; go_at_K))
          ((with_reducible refine C.mono ?_); rintro e w2 ⟨A2, k2, c2, rfl, ho2, hu2⟩)
          have hR2 := hR.upd hu2 (by simp)
          have U2 := (U.trans hu2).gives (b' := []) (by simp)
          obtain ⟨⟨q0, q1, q2, q3, q4⟩, f0, f1, f2, f3, f4⟩ := hR2.c5
          have hlR := hR2.lt
          clear C hR hG U hu2 hab hBr
          repeat' ((fail_if_success (with_reducible refine stop_append rfl ?_)); (fail_if_success (with_reducible refine stop_copy rfl ?_)); first | go_values | go_skip | go_guarded | go_step | go_upon | (simp only []; go_at_K))
          have N := rowSet [.int .i64 0, .int .i64 0, .int .i64 0, .int .i64 0, .slice none 0 0] hR2 rfl U2 (.inr (by omega))
          simp only [setRow] at N
          generalize World.setCell _ ⟨w.heap.size, 4, none⟩ _ = W5 at N ⊢
          obtain ⟨hN, hU5⟩ := N
          clear q0 q1 q2 q3 q4
          obtain ⟨⟨q0, q1, q2, q3, q4⟩, -⟩ := hN.c5
          exact bodyPost_ret (v := .tuple #[.agg #[.int .i64 0, .int .i64 0, .int .i64 0, .int .i64 0, .slice none 0 0], .int .i64 2]) (by simp [results, Tryd.results18, go_sem, q0, q1, q2, q3, q4]) rfl ⟨.inl ⟨HDN.out, rfl⟩, hU5⟩
      · have HDN := Lib.hid (decR_none (dec_none (.inr rfl) (show body b msB = none by rw [HT.out, if_neg (by simp [hz])])))
        have hzi : ((bad : Int) == 0) = false := by simp; omega
        have hzn : ((bad : Int) != 0) = true := by simp; omega
        clear hN hu HT hml
        repeat' ((fail_if_success (with_reducible refine stop_append rfl ?_)); (fail_if_success (with_reducible refine stop_copy rfl ?_)); first | go_values | go_skip | go_guarded | go_step | go_upon | (simp only []; go_at_K))
        ((with_reducible refine C.mono ?_); rintro e w2 ⟨A2, k2, c2, rfl, ho2, hu2⟩)
        have hR2 := hR.upd hu2 (by simp)
        have U2 := (U.trans hu2).gives (b' := []) (by simp)
        obtain ⟨⟨q0, q1, q2, q3, q4⟩, f0, f1, f2, f3, f4⟩ := hR2.c5
        have hlR := hR2.lt
        clear C hR hG U hu2 hab hBr
        repeat' ((fail_if_success (with_reducible refine stop_append rfl ?_)); (fail_if_success (with_reducible refine stop_copy rfl ?_)); first | go_values | go_skip | go_guarded | go_step | go_upon | (simp only []; go_at_K))
        have N := rowSet [.int .i64 0, .int .i64 0, .int .i64 0, .int .i64 0, .slice none 0 0] hR2 rfl U2 (.inr (by omega))
        simp only [setRow] at N
        generalize World.setCell _ ⟨w.heap.size, 4, none⟩ _ = W5 at N ⊢
        obtain ⟨hN, hU5⟩ := N
        clear q0 q1 q2 q3 q4
        obtain ⟨⟨q0, q1, q2, q3, q4⟩, -⟩ := hN.c5
        exact bodyPost_ret (v := .tuple #[.agg #[.int .i64 0, .int .i64 0, .int .i64 0, .int .i64 0, .slice none 0 0], .int .i64 2]) (by simp [results, Tryd.results18, go_sem, q0, q1, q2, q3, q4]) rfl ⟨.inl ⟨HDN.out, rfl⟩, hU5⟩
end Go.Proofs.YtdmkhmejpgjioaaDoor
