/- Records: (agio/alog).read. -/
import Derived.Test.YtdmkhmejpgjioaaDoorAlog2
import Derived.Test.YtdmkhmejpgjioaaDoorReader3
import Derived.Deep.RegionWith
set_option linter.all false
namespace Go.Proofs.YtdmkhmejpgjioaaDoor
open Go.RowKit Agio

/-- Four numbers, of which some are read. -/
def fourC (l : List Nat) : List Value := i64s l ++ List.replicate (4 - l.length) (.int .i64 0)
theorem fourC_len {l : List Nat} (h : l.length ≤ 4) : (fourC l).length = 4 := by simp [fourC, i64s]; omega
theorem fourC_set {l : List Nat} (h : l.length < 4) (x : Nat) : (fourC l).toArray.setIfInBounds l.length (.int .i64 (x : Int)) = (fourC (l ++ [x])).toArray := by
  match l, h with
  | [], _ => rfl
  | [_], _ => rfl
  | [_, _], _ => rfl
  | [_, _, _], _ => rfl
theorem fourC_ex {l : List Nat} (h : l.length ≤ 4) : ∃ y0 y1 y2 y3 : Int, (fourC l).toArray = #[.int .i64 y0, .int .i64 y1, .int .i64 y2, .int .i64 y3] := by
  match l, h with
  | [], _ => exact ⟨_, _, _, _, rfl⟩
  | [_], _ => exact ⟨_, _, _, _, rfl⟩
  | [_, _], _ => exact ⟨_, _, _, _, rfl⟩
  | [_, _, _], _ => exact ⟨_, _, _, _, rfl⟩
  | [_, _, _, _], _ => exact ⟨_, _, _, _, rfl⟩
theorem fourC_full {l : List Nat} (h : l.length = 4) : ∃ n0 n1 n2 n3 : Nat, l = [n0, n1, n2, n3] := by
  match l, h with
  | [a, b, c, d], _ => exact ⟨a, b, c, d, rfl⟩
theorem Rr.apart {w : World} {g : Nat} {A : Option Addr} {k c : Nat} {b : List UInt8} {a h : Nat} {t : TypeId} {cs : Array Value} (hr : Rr w g A k c b a) (hB : Blk w h t cs) (ht : t ≠ 5) (hg : g ≠ h) : ∀ j ∈ g :: ablk A, j ∉ [h] := by
  intro j hj
  simp only [List.mem_singleton]
  rintro rfl
  rcases List.mem_cons.1 hj with h | h
  · exact hg h.symm
  · exact hr.own.own.ne hB (Ne.symm ht) h
/-- What read tells. -/
def ARead (b : List UInt8) (w : World) (e : Ending) : Prop :=
  (∃ (i0 i1 i2 i3 : Int) (A : Option Addr) (n c : Nat) (t : TypeId) (x : Value), body b msA = none ∧ e = .returned (.tuple #[.agg #[.int .i64 i0, .int .i64 i1, .int .i64 i2, .int .i64 i3, .slice A n c], .iface t x])) ∨
  ∃ (n0 n1 n2 n3 : Nat) (v : List UInt8) (A : Option Addr) (n c : Nat), body b msA = some ([n0, n1, n2, n3], v) ∧ OwnB 5 w A n c v ∧
    e = .returned (.tuple #[.agg #[.int .i64 (n0 : Int), .int .i64 (n1 : Int), .int .i64 (n2 : Int), .int .i64 (n3 : Int), .slice A n c], .nilIface])
theorem msA_get {i : Nat} (h : i < 4) : ∃ m, msA[i]? = some m ∧ I64 m := by
  have : i = 0 ∨ i = 1 ∨ i = 2 ∨ i = 3 := by omega
  rcases this with rfl | rfl | rfl | rfl <;> exact ⟨_, rfl, by unfold I64; omega⟩
theorem msA_ix {i : Nat} {m : Int} (h : msA[i]? = some m) (w : World) : (Instr.index 105 (.agg #[.int .i64 2, .int .i64 4095, .int .i64 1099511627776, .int .i64 6]) (.int .i64 (i : Int))).run Tryd.prog w = .ok (.int .i64 m) w := by
  have hi : i < 4 := (List.getElem?_eq_some_iff.1 h).1
  have : i = 0 ∨ i = 1 ∨ i = 2 ∨ i = 3 := by omega
  rcases this with rfl | rfl | rfl | rfl <;> obtain rfl := Option.some.inj h <;> exact (show _ = _ by kernel_rfl)

set_option maxRecDepth 100000 in
set_option maxHeartbeats 4000000 in
theorem alogRead (w : World) (B : Option Addr) (m d : Nat) (b : List UInt8) (hB : RdB w B m b) (hb : b.length ≤ 140737488355328) :
    Calls Tryd.prog 50 #[.slice B m d] w fun e w' => ARead b w' e ∧ Upd [] [] w w' := by
  have hR0 := Blk.new w 44 #[.int .i64 0, .int .i64 0, .int .i64 0, .int .i64 0, .slice none 0 0]
  go_enter Tryd.func50, Tryd.ntmps50
  repeat' ((fail_if_success (with_reducible refine stop_append rfl ?_)); (fail_if_success (with_reducible refine stop_copy rfl ?_)); first | go_values | go_skip | go_guarded | go_step | go_upon | (simp only []; go_at_K))
  refine (wireFrom _ B m d b (hB.alloc _) hb).mono ?_
  rintro e w1 ⟨g, A, k, c, rfl, hr1, hu1⟩
  have hR1 := hR0.upd hu1 (by simp)
  have hg : w.heap.size < g := by
    have := hu1.fresh g (by simp)
    simp at this; omega
  have U1 : Upd [] [g] w w1 := (((Upd.refl [] w).alloc _).trans hu1).gives (by simp; omega)
  have hgl := hr1.blk.lt
  clear hu1 hR0
  repeat' ((fail_if_success (with_reducible refine stop_append rfl ?_)); (fail_if_success (with_reducible refine stop_copy rfl ?_)); first | go_values | go_skip | go_guarded | go_step | go_upon | (simp only []; go_at_K))
  have hG2 : Blk (w1.alloc (.cells #[.int .i64 0, .int .i64 0, .int .i64 0, .int .i64 0] 105)) w1.heap.size 105 (fourC []).toArray := Blk.new _ _ _
  have hR2 := hR1.alloc (.cells #[.int .i64 0, .int .i64 0, .int .i64 0, .int .i64 0] 105)
  have hr2 : Rr (w1.alloc (.cells #[.int .i64 0, .int .i64 0, .int .i64 0, .int .i64 0] 105)) g A k c b 0 := ⟨hr1.blk.alloc _, hr1.own.alloc _, hr1.le⟩
  have U2 : Upd [] [g] w (w1.alloc (.cells #[.int .i64 0, .int .i64 0, .int .i64 0, .int .i64 0] 105)) := U1.alloc _
  clear hR1 hr1
  have hG0 : w.heap.size ≤ w1.heap.size := U1.size
  have hRG : w.heap.size ≠ w1.heap.size := by omega
  go_loopw [16] (fun v16 wr => ∃ (l : List Nat) (a : Nat), l.length ≤ 4 ∧ v16 = .int .i64 (l.length : Int) ∧ NumSt b msA l a ∧ Blk wr w1.heap.size 105 (fourC l).toArray ∧ Blk wr w.heap.size 44 #[.int .i64 0, .int .i64 0, .int .i64 0, .int .i64 0, .slice none 0 0] ∧ Rr wr g A k c b a ∧ Upd [] [g] w wr)
    (fun v16 _ => 4 - (intOf v16).toNat)
  case atStart => exact ⟨[], 0, by simp, rfl, NumSt.zero _ _, hG2, hR2, hr2, U2⟩
  case round =>
    obtain ⟨l, a, hl4, rfl, hst, hG, hR, hr, U⟩ := hrel
    clear hG2 hR2 hr2 U1 U2
    have hgG : w1.heap.size ∉ [g] := by simp; omega
    have hgR : w.heap.size ∉ [g] := by simp; omega
    by_cases hlt : l.length < 4
    · obtain ⟨mo, hmo, hmI⟩ := msA_get hlt
      have hix := msA_ix hmo
      have C := readerSmall wr g A k c b a mo hmI hr hb
      obtain ⟨n, sz, bad, hu⟩ : ∃ n sz bad, upt mo (b.drop a) = (n, sz, bad) := ⟨_, _, _, rfl⟩
      rw [hu] at C
      by_cases hz : bad = 0
      · subst hz
        have HN := Lib.hid (hst.more hmo hu)
        have HFS := Lib.hid (fourC_set hlt n)
        simp only [flt_zero] at C
        clear hst hmo hu
        obtain ⟨y0, y1, y2, y3, hy⟩ := fourC_ex hl4
        have hi4 : l.length = 0 ∨ l.length = 1 ∨ l.length = 2 ∨ l.length = 3 := by omega
        have hGn : ∀ W : World, Blk W w1.heap.size 105 (fourC l).toArray → (∃ y, W.cell? ⟨w1.heap.size, l.length, none⟩ = some (.int .i64 y)) ∧ W.frozen? ⟨w1.heap.size, l.length, none⟩ = false := by
          intro W hW
          refine ⟨?_, hW.frozen _⟩
          rw [hy] at hW
          rcases hi4 with h | h | h | h <;> rw [h]
          · exact ⟨y0, hW.cell 0⟩
          · exact ⟨y1, hW.cell 1⟩
          · exact ⟨y2, hW.cell 2⟩
          · exact ⟨y3, hW.cell 3⟩
        have HGn := Lib.hid hGn
        clear hGn hy
        repeat' ((fail_if_success (with_reducible refine stop_append rfl ?_)); (fail_if_success (with_reducible refine stop_copy rfl ?_)); first | go_values | go_skip | go_guarded | go_step | go_upon | (simp only []; go_at_K))
        ((with_reducible refine C.mono ?_); rintro e w2 ⟨rfl, hr2, hu2⟩)
        have hG2 := hG.upd hu2 hgG
        have hR2 := hR.upd hu2 hgR
        obtain ⟨⟨y, hcy⟩, hfy⟩ := HGn.out _ hG2
        have U2 := U.trans hu2
        clear C hix hr hG hR U hu2 hi4
        repeat' ((fail_if_success (with_reducible refine stop_append rfl ?_)); (fail_if_success (with_reducible refine stop_copy rfl ?_)); first | go_values | go_skip | go_guarded | go_step | go_upon | (simp only []; go_at_K))
        refine ⟨⟨l ++ [n], a + sz, by simp; omega, by simp, HN.out, ?_, hR2.far (by simp; omega) _, ?_, U2.setCell (.inr (by simp; omega)) _⟩, by simp [intOf] <;> omega⟩
        · rw [← HFS.out]; exact hG2.set_ _ _
        · exact hr2.upd ((Upd.refl [w1.heap.size] w2).setCell (.inl (by simp)) _) (hr2.apart hG2 (by decide) (by omega))
      · have HN := Lib.hid (body_nums (hst.bad hmo hu hz))
        simp only [flt_pos hz] at C
        clear hst hmo hu
        repeat' ((fail_if_success (with_reducible refine stop_append rfl ?_)); (fail_if_success (with_reducible refine stop_copy rfl ?_)); first | go_values | go_skip | go_guarded | go_step | go_upon | (simp only []; go_at_K))
        ((with_reducible refine C.mono ?_); rintro e w2 ⟨rfl, hr2, hu2⟩)
        have hR2 := hR.upd hu2 hgR
        have U2 := (U.trans hu2).gives (b' := []) (by simp)
        have hlR := hR2.lt
        obtain ⟨⟨q0, q1, q2, q3, q4⟩, f0, f1, f2, f3, f4⟩ := hR2.c5
        clear C hix hr hG hR U hu2 hr2
        repeat' ((fail_if_success (with_reducible refine stop_append rfl ?_)); (fail_if_success (with_reducible refine stop_copy rfl ?_)); first | go_values | go_skip | go_guarded | go_step | go_upon | (simp only []; go_at_K))
        have N := rowSet [.int .i64 0, .int .i64 0, .int .i64 0, .int .i64 0, .slice none 0 0] hR2 rfl U2 (.inr (by omega))
        simp only [setRow] at N
        generalize World.setCell _ ⟨w.heap.size, 4, none⟩ _ = W5 at N ⊢
        obtain ⟨hN, hU5⟩ := N
        clear q0 q1 q2 q3 q4
        obtain ⟨⟨q0, q1, q2, q3, q4⟩, -⟩ := hN.c5
        exact bodyPost_ret (v := .tuple #[.agg #[.int .i64 0, .int .i64 0, .int .i64 0, .int .i64 0, .slice none 0 0], .iface 138 (.agg #[.int .i64 (bad : Int), .int .i64 (a : Int)])]) (by simp [results, Tryd.results50, go_sem, q0, q1, q2, q3, q4]) rfl ⟨.inl ⟨0, 0, 0, 0, none, 0, 0, _, _, HN.out, rfl⟩, hU5⟩
    · obtain ⟨n0, n1, n2, n3, rfl⟩ := fourC_full (l := l) (by omega)
      have hN := hst.all (by rfl)
      clear hst hlt hl4
      have C := readerBytes wr g A k c b a 2048 (by unfold I64; omega) hr hb
      obtain ⟨v, sz, bad, hu⟩ : ∃ v sz bad, tk 2048 (b.drop a) = (v, sz, bad) := ⟨_, _, _, rfl⟩
      have HT := Lib.hid (body_tk hN hu)
      rw [hu] at C
      clear hN hu
      have hG : Blk wr w1.heap.size 105 #[.int .i64 (n0 : Int), .int .i64 (n1 : Int), .int .i64 (n2 : Int), .int .i64 (n3 : Int)] := hG
      by_cases hz : bad = 0
      · subst hz
        simp only [flt_zero] at C
        repeat' ((fail_if_success (with_reducible refine stop_append rfl ?_)); (fail_if_success (with_reducible refine stop_copy rfl ?_)); first | go_values | go_skip | go_guarded | go_step | go_upon | (simp only []; go_at_K))
        ((with_reducible refine C.mono ?_); rintro e w2 ⟨A2, k2, c2, rfl, ho2, hr2, hu2⟩)
        have hR2 := hR.upd hu2 hgR
        have hG2 := hG.upd hu2 hgG
        have U2 : Upd [] [g] w w2 := (U.trans hu2).gives (b' := [g]) (by simp; omega)
        have hlR := hR2.lt
        obtain ⟨⟨s0, s1, s2, s3⟩, -⟩ := hG2.c4
        clear C hr hG hR U hu2
        repeat' ((fail_if_success (with_reducible refine stop_append rfl ?_)); (fail_if_success (with_reducible refine stop_copy rfl ?_)); first | go_values | go_skip | go_guarded | go_step | go_upon | (simp only []; go_at_K))
        have D := readerEnd ((w2.alloc (.cells #[.int .i64 (n0 : Int), .int .i64 (n1 : Int), .int .i64 (n2 : Int), .int .i64 (n3 : Int), .slice A2 k2 c2] 44)).drew) g A k c b (a + sz) (Rr.drewN (w := w2.alloc (.cells #[.int .i64 (n0 : Int), .int .i64 (n1 : Int), .int .i64 (n2 : Int), .int .i64 (n3 : Int), .slice A2 k2 c2] 44)) ⟨hr2.blk.alloc _, hr2.own.alloc _, hr2.le⟩ 1) hb
        have hR3 := hR2.alloc (.cells #[.int .i64 (n0 : Int), .int .i64 (n1 : Int), .int .i64 (n2 : Int), .int .i64 (n3 : Int), .slice A2 k2 c2] 44)
        have hT3 := Blk.new w2 44 #[.int .i64 (n0 : Int), .int .i64 (n1 : Int), .int .i64 (n2 : Int), .int .i64 (n3 : Int), .slice A2 k2 c2]
        have ho3 := ho2.alloc (.cells #[.int .i64 (n0 : Int), .int .i64 (n1 : Int), .int .i64 (n2 : Int), .int .i64 (n3 : Int), .slice A2 k2 c2] 44)
        have U3 : Upd [] [] w _ := (U2.alloc (.cells #[.int .i64 (n0 : Int), .int .i64 (n1 : Int), .int .i64 (n2 : Int), .int .i64 (n3 : Int), .slice A2 k2 c2] 44)).gives (by simp)
        have hle : a + sz ≤ b.length := hr2.le
        obtain ⟨W, hW⟩ : ∃ W, w2.alloc (.cells #[.int .i64 (n0 : Int), .int .i64 (n1 : Int), .int .i64 (n2 : Int), .int .i64 (n3 : Int), .slice A2 k2 c2] 44) = W := ⟨_, rfl⟩
        rw [hW] at D hR3 hT3 ho3 U3 ⊢
        clear hW hr2 hR2 hG2 U2 ho2 s0 s1 s2 s3
        obtain ⟨⟨t0, t1, t2, t3, t4⟩, -⟩ := hT3.c5
        obtain ⟨⟨q0, q1, q2, q3, q4⟩, f0, f1, f2, f3, f4⟩ := hR3.c5
        by_cases he : a + sz < b.length
        · rw [if_pos he, flt_pos (by decide)] at D
          have HN : Hid (body b msA = none) := by unfold Hid; rw [HT.out, if_neg (by omega)]
          clear HT he hle
          go_region_with (go_at_call 69; refine D.mono ?_; rintro e w5 ⟨rfl, nq, rfl⟩)
          all_goals
            have N := rowSet (W := W.drewN (1 + nq)) [.int .i64 (n0 : Int), .int .i64 (n1 : Int), .int .i64 (n2 : Int), .int .i64 (n3 : Int), .slice A2 k2 c2] (hR3.drewN _) rfl (U3.drewN _) (.inr (by omega))
            simp only [setRow] at N
            generalize World.setCell _ ⟨w.heap.size, 4, none⟩ _ = W5 at N ⊢
            obtain ⟨hN, hU5⟩ := N
            clear q0 q1 q2 q3 q4
            obtain ⟨⟨q0, q1, q2, q3, q4⟩, -⟩ := hN.c5
            repeat' ((fail_if_success (with_reducible refine stop_append rfl ?_)); (fail_if_success (with_reducible refine stop_copy rfl ?_)); first | go_values | go_skip | go_guarded | go_step | go_upon | (simp only []; go_at_K))
            exact bodyPost_ret (v := .tuple #[.agg #[.int .i64 (n0 : Int), .int .i64 (n1 : Int), .int .i64 (n2 : Int), .int .i64 (n3 : Int), .slice A2 k2 c2], .iface 138 (.agg #[.int .i64 2, .int .i64 ((a + sz : Nat) : Int)])]) (by simp [results, Tryd.results50, go_sem, q0, q1, q2, q3, q4]) rfl ⟨.inl ⟨_, _, _, _, _, _, _, _, _, HN.out, rfl⟩, hU5⟩
        · rw [if_neg he, flt_zero] at D
          have HN : Hid (body b msA = some ([n0, n1, n2, n3], v)) := by unfold Hid; rw [HT.out, if_pos ⟨rfl, by omega⟩]
          have hne : ∀ j ∈ ablk A2, j ≠ w.heap.size := by rintro j hj rfl; exact ho3.own.ne hR3 (by decide) hj
          clear HT he hle
          go_region_with (go_at_call 69; refine D.mono ?_; rintro e w5 ⟨rfl, nq, rfl⟩)
          all_goals
            have N := rowSet (W := W.drewN (1 + nq)) [.int .i64 (n0 : Int), .int .i64 (n1 : Int), .int .i64 (n2 : Int), .int .i64 (n3 : Int), .slice A2 k2 c2] (hR3.drewN _) rfl (U3.drewN _) (.inr (by omega))
            have N2 := rowSet (W := W.drewN (1 + nq)) [.int .i64 (n0 : Int), .int .i64 (n1 : Int), .int .i64 (n2 : Int), .int .i64 (n3 : Int), .slice A2 k2 c2] (hR3.drewN _) rfl (Upd.refl [w.heap.size] (W.drewN (1 + nq))) (.inl (by simp))
            have ho5 := OwnB.upd (w := W.drewN (1 + nq)) ⟨ho3.len, ho3.own.drewN _⟩ N2.2 (by intro j hj; simpa using hne j hj)
            clear N2
            simp only [setRow] at N ho5
            generalize World.setCell _ ⟨w.heap.size, 4, none⟩ _ = W5 at N ho5 ⊢
            obtain ⟨hN, hU5⟩ := N
            clear q0 q1 q2 q3 q4
            obtain ⟨⟨q0, q1, q2, q3, q4⟩, -⟩ := hN.c5
            repeat' ((fail_if_success (with_reducible refine stop_append rfl ?_)); (fail_if_success (with_reducible refine stop_copy rfl ?_)); first | go_values | go_skip | go_guarded | go_step | go_upon | (simp only []; go_at_K))
            exact bodyPost_ret (v := .tuple #[.agg #[.int .i64 (n0 : Int), .int .i64 (n1 : Int), .int .i64 (n2 : Int), .int .i64 (n3 : Int), .slice A2 k2 c2], .nilIface]) (by simp [results, Tryd.results50, go_sem, q0, q1, q2, q3, q4]) rfl ⟨.inr ⟨_, _, _, _, _, _, _, _, HN.out, ho5, rfl⟩, hU5⟩
      · have HN : Hid (body b msA = none) := by unfold Hid; rw [HT.out, if_neg (by simp [hz])]
        simp only [flt_pos hz] at C
        clear HT
        repeat' ((fail_if_success (with_reducible refine stop_append rfl ?_)); (fail_if_success (with_reducible refine stop_copy rfl ?_)); first | go_values | go_skip | go_guarded | go_step | go_upon | (simp only []; go_at_K))
        ((with_reducible refine C.mono ?_); rintro e w2 ⟨A2, k2, c2, rfl, ho2, hr2, hu2⟩)
        have hR2 := hR.upd hu2 hgR
        have U2 := (U.trans hu2).gives (b' := []) (by simp)
        have hlR := hR2.lt
        obtain ⟨⟨q0, q1, q2, q3, q4⟩, f0, f1, f2, f3, f4⟩ := hR2.c5
        clear C hr hG hR U hu2 hr2
        repeat' ((fail_if_success (with_reducible refine stop_append rfl ?_)); (fail_if_success (with_reducible refine stop_copy rfl ?_)); first | go_values | go_skip | go_guarded | go_step | go_upon | (simp only []; go_at_K))
        have N := rowSet [.int .i64 0, .int .i64 0, .int .i64 0, .int .i64 0, .slice none 0 0] hR2 rfl U2 (.inr (by omega))
        simp only [setRow] at N
        generalize World.setCell _ ⟨w.heap.size, 4, none⟩ _ = W5 at N ⊢
        obtain ⟨hN, hU5⟩ := N
        clear q0 q1 q2 q3 q4
        obtain ⟨⟨q0, q1, q2, q3, q4⟩, -⟩ := hN.c5
        exact bodyPost_ret (v := .tuple #[.agg #[.int .i64 0, .int .i64 0, .int .i64 0, .int .i64 0, .slice none 0 0], .iface 138 (.agg #[.int .i64 (bad : Int), .int .i64 (a : Int)])]) (by simp [results, Tryd.results50, go_sem, q0, q1, q2, q3, q4]) rfl ⟨.inl ⟨0, 0, 0, 0, none, 0, 0, _, _, HN.out, rfl⟩, hU5⟩
end Go.Proofs.YtdmkhmejpgjioaaDoor
