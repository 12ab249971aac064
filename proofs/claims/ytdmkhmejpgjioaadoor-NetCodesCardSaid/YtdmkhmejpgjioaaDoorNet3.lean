/- Messages: (agio/net).Encode. -/
import Derived.Test.YtdmkhmejpgjioaaDoorNet2
set_option linter.all false
namespace Go.Proofs.YtdmkhmejpgjioaaDoor
open Go.RowKit Agio

set_option maxRecDepth 100000 in
set_option maxHeartbeats 2000000 in
theorem netEncode_no (x : Mv) (w : World) (hr : RdB w x.A x.n x.b) (hm : ¬ x.ms.May) :
    Calls Tryd.prog 21 #[x.val] w fun e w' => e = .returned (.tuple #[.slice none 0 0, .int .i64 1]) ∧ Upd [] [] w w' := by
  have C := fun w hr => netMay_no x w hr hm
  have HR : Hid (∀ o, RdB (w.alloc o) x.A x.n x.b) := fun o => hr.alloc o
  rw [Mv.val_eq] at C ⊢
  clear hr hm
  go_enter Tryd.func21, Tryd.ntmps21
  repeat' ((fail_if_success (with_reducible refine stop_append rfl ?_)); (fail_if_success (with_reducible refine stop_copy rfl ?_)); first | go_values | go_skip | go_guarded | go_step | go_upon | (simp only []; go_at_K))
  ((with_reducible refine (C _ (HR.out _)).mono ?_); rintro e w1 ⟨rfl, hu1⟩)
  repeat' ((fail_if_success (with_reducible refine stop_append rfl ?_)); (fail_if_success (with_reducible refine stop_copy rfl ?_)); first | go_values | go_skip | go_guarded | go_step | go_upon | (simp only []; go_at_K))
  go_ret2
  exact ⟨rfl, ((Upd.refl _ _).alloc _).trans hu1⟩

theorem ns_cells {x : Mv} (hm : x.ms.May) {w : World} {M S : Nat} (hM : Blk w M 56 #[.int .i64 x.k, .int .i64 x.f, .int .i64 x.t, .int .i64 x.s, .int .i64 x.br, .int .i64 x.bs, .int .i64 x.hr, .int .i64 x.hs, .bool x.so, .slice x.A x.n x.c]) (hS : Blk w S 3 #[.int .i64 (x.ms.is : Int)]) :
    ∀ (j : Nat) (h : j < 9) (h2 : j < x.ms.ns.length), w.cell? ((nptrs M S)[j]'h) = some (.int .i64 ((x.ms.ns[j] : Nat) : Int)) := by
  have h1 := hm.kind; have h2 := hm.frm; have h3 := hm.to; have h4 := hm.slot; have h5 := hm.bround; have h6 := hm.bsite; have h7 := hm.hround; have h8 := hm.hsite
  simp only [Mv.ms] at h1 h2 h3 h4 h5 h6 h7 h8
  intro j hj hj2
  have : j = 0 ∨ j = 1 ∨ j = 2 ∨ j = 3 ∨ j = 4 ∨ j = 5 ∨ j = 6 ∨ j = 7 ∨ j = 8 := by omega
  rcases this with rfl | rfl | rfl | rfl | rfl | rfl | rfl | rfl | rfl
  · exact (hM.cell 0).trans (congrArg some (congrArg (Value.int .i64) (show x.k = ((x.k.toNat : Nat) : Int) by omega)))
  · exact (hM.cell 1).trans (congrArg some (congrArg (Value.int .i64) (show x.f = ((x.f.toNat : Nat) : Int) by omega)))
  · exact (hM.cell 2).trans (congrArg some (congrArg (Value.int .i64) (show x.t = ((x.t.toNat : Nat) : Int) by omega)))
  · exact (hM.cell 3).trans (congrArg some (congrArg (Value.int .i64) (show x.s = ((x.s.toNat : Nat) : Int) by omega)))
  · exact (hM.cell 4).trans (congrArg some (congrArg (Value.int .i64) (show x.br = ((x.br.toNat : Nat) : Int) by omega)))
  · exact (hM.cell 5).trans (congrArg some (congrArg (Value.int .i64) (show x.bs = ((x.bs.toNat : Nat) : Int) by omega)))
  · exact (hM.cell 6).trans (congrArg some (congrArg (Value.int .i64) (show x.hr = ((x.hr.toNat : Nat) : Int) by omega)))
  · exact (hM.cell 7).trans (congrArg some (congrArg (Value.int .i64) (show x.hs = ((x.hs.toNat : Nat) : Int) by omega)))
  · exact hS.cell 0

set_option maxRecDepth 100000 in
set_option maxHeartbeats 4000000 in
theorem netEncode (x : Mv) (w : World) (hr : RdB w x.A x.n x.b) (hm : x.ms.May) :
    Calls Tryd.prog 21 #[x.val] w fun e w' => ∃ A' k' c', e = .returned (.tuple #[.slice A' k' c', .int .i64 0]) ∧ OwnB 5 w' A' k' c' x.ms.bytes ∧ Upd [] (ablk A') w w' := by
  have C := netMay_yes x (w.alloc (.cells #[.int .i64 x.k, .int .i64 x.f, .int .i64 x.t, .int .i64 x.s, .int .i64 x.br, .int .i64 x.bs, .int .i64 x.hr, .int .i64 x.hs, .bool x.so, .slice x.A x.n x.c] 56)) (hr.alloc _) hm
  have HNC : Hid (∀ (w : World) (M S : Nat), Blk w M 56 #[.int .i64 x.k, .int .i64 x.f, .int .i64 x.t, .int .i64 x.s, .int .i64 x.br, .int .i64 x.bs, .int .i64 x.hr, .int .i64 x.hs, .bool x.so, .slice x.A x.n x.c] → Blk w S 3 #[.int .i64 (x.ms.is : Int)] → ∀ (j : Nat) (h : j < 9) (h2 : j < x.ms.ns.length), w.cell? ((nptrs M S)[j]'h) = some (.int .i64 ((x.ms.ns[j] : Nat) : Int))) := fun w M S h1 h2 => ns_cells hm h1 h2
  have hU := hm.U
  have hil : x.ms.inside.length ≤ 4096 := by have := hm.ilen; omega
  have hv : x.b.length ≤ 2048 := hm.val
  have hnl : x.ms.ns.length = 9 := rfl
  have HNL := Lib.hid hnl; clear hnl
  have hns : ∀ n ∈ x.ms.ns, n ≤ 9223372036854775807 := by
    have h1 := hm.kind; have h2 := hm.frm; have h3 := hm.to; have h4 := hm.slot; have h5 := hm.bround; have h6 := hm.bsite; have h7 := hm.hround; have h8 := hm.hsite; have h9 := x.ms.is_le
    intro n hn
    simp only [Ms.ns, List.mem_cons, List.not_mem_nil, or_false] at hn
    rcases hn with rfl | rfl | rfl | rfl | rfl | rfl | rfl | rfl | rfl <;> omega
  have HB : Hid (x.ms.inside = x.ms.ns.flatMap leb ++ leb x.b.length ++ x.b) := by unfold Hid Ms.inside bodyB; rw [List.append_assoc]; rfl
  have HBY : Hid (x.ms.bytes = put x.ms.inside) := rfl
  have hlb := lebs_len hU
  have HIS : Hid (∀ b, x.so = b → x.ms.is = if b then 1 else 0) := fun b h => by unfold Ms.is Mv.ms; rw [h]
  have HLT := Lib.hid hr.lt
  clear hm
  rw [Mv.val_eq] at C ⊢
  go_enter Tryd.func21, Tryd.ntmps21
  repeat' ((fail_if_success (with_reducible refine stop_append rfl ?_)); (fail_if_success (with_reducible refine stop_copy rfl ?_)); first | go_values | go_skip | go_guarded | go_step | go_upon | (simp only []; go_at_K))
  ((with_reducible refine C.mono ?_); rintro e w1 ⟨rfl, hu1⟩)
  have hX := (Blk.new w 56 #[.int .i64 x.k, .int .i64 x.f, .int .i64 x.t, .int .i64 x.s, .int .i64 x.br, .int .i64 x.bs, .int .i64 x.hr, .int .i64 x.hs, .bool x.so, .slice x.A x.n x.c]).upd hu1 (by simp)
  have U1 : Upd [] [] w w1 := ((Upd.refl _ _).alloc _).trans hu1
  have hlt := hX.lt
  have q8 := hX.cell 8
  simp only [List.getElem?_toArray, List.getElem?_cons_succ, List.getElem?_cons_zero] at q8
  clear C hu1
  -- the world in which the numbers are laid down
  have hgo : ∀ W : World, W = (w1.alloc (.cells #[.slice none 0 0] 69)).alloc (.cells #[.int .i64 (x.ms.is : Int)] 3) →
      Wr W w1.heap.size none 0 0 [] ∧ Blk W w.heap.size 56 #[.int .i64 x.k, .int .i64 x.f, .int .i64 x.t, .int .i64 x.s, .int .i64 x.br, .int .i64 x.bs, .int .i64 x.hr, .int .i64 x.hs, .bool x.so, .slice x.A x.n x.c] ∧ Blk W (w1.heap.size + 1) 3 #[.int .i64 (x.ms.is : Int)] ∧ Upd [] (w1.heap.size :: ablk none) w W := by
    rintro W rfl
    refine ⟨⟨(Blk.new _ _ _).alloc _, ((OwnB.nil _ _).alloc _).alloc _⟩, (hX.alloc _).alloc _, ?_, ?_⟩
    · have := Blk.new (w1.alloc (.cells #[.slice none 0 0] 69)) 3 #[.int .i64 (x.ms.is : Int)]
      rwa [World.size_alloc] at this
    · exact ((U1.alloc _).alloc _).gives (by have := U1.size; simp [ablk]; omega)
  have HGO := Lib.hid hgo; clear hgo hX U1
  cases hso : x.so
  all_goals
    have his := HIS.out _ hso
    rw [hso] at q8
    simp only [if_true, if_false, Bool.false_eq_true] at his
    repeat' ((fail_if_success (with_reducible refine stop_append rfl ?_)); (fail_if_success (with_reducible refine stop_copy rfl ?_)); first | go_values | go_skip | go_guarded | go_step | go_upon | (simp only []; go_at_K))
    obtain ⟨hW, hXW, hSW, UW⟩ := HGO.out _ rfl
    clear q8
    rw [his] at hSW
    have hnc := HNC.out _ _ _ hXW (by rw [his]; exact hSW)
    rw [his] at hW hXW UW hnc
    have T := netThroughE _ w.heap.size (w1.heap.size + 1) w1.heap.size x.ms.ns HNL.out hns hnc none 0 0 [] hW (by simp) (hW.away hXW (by decide) (by decide)) (hW.away hSW (by decide) (by decide)) hXW.lt hSW.lt
    have hfar1 := hW.away hXW (by decide) (by decide)
    clear HGO hSW hnc
    refine T.mono ?_
    rintro e w2 ⟨rfl, A2, k2, c2, hw2, hu2⟩
    rw [List.nil_append] at hw2
    have U2 := UW.trans hu2
    have hX2 := hXW.upd hu2 hfar1
    have q9 := hX2.cell 9
    simp only [List.getElem?_toArray, List.getElem?_cons_succ, List.getElem?_cons_zero] at q9
    clear T hW hXW UW hu2 hfar1
    repeat' ((fail_if_success (with_reducible refine stop_append rfl ?_)); (fail_if_success (with_reducible refine stop_copy rfl ?_)); first | go_values | go_skip | go_guarded | go_step | go_upon | (simp only []; go_at_K))
    ((with_reducible refine (writerBytes w2 w1.heap.size A2 k2 c2 _ x.A x.n x.c x.b (hr.upd U2 (by simp)) (fun h0 j hj hm => by have h1 := HLT.out h0 j hj; exact absurd (U2.fresh j hm) (by simp only [List.not_mem_nil, false_or]; omega)) hw2 (by rw [HNL.out] at hlb; omega)).mono ?_); rintro e w3 ⟨rfl, A3, k3, c3, hw3, hu3⟩)
    have U3 := U2.trans hu3
    rw [← HB.out] at hw3
    clear U2 hu3 hw2 hX2 q9
    repeat' ((fail_if_success (with_reducible refine stop_append rfl ?_)); (fail_if_success (with_reducible refine stop_copy rfl ?_)); first | go_values | go_skip | go_guarded | go_step | go_upon | (simp only []; go_at_K))
    ((with_reducible refine (writerTold w3 w1.heap.size A3 k3 c3 _ hw3 (by omega)).mono ?_); rintro e w4 ⟨A4, k4, c4, rfl, ho4, hu4⟩)
    have U4 := (U3.gives (b' := []) (by simp)).trans hu4
    clear U3 hu4
    repeat' ((fail_if_success (with_reducible refine stop_append rfl ?_)); (fail_if_success (with_reducible refine stop_copy rfl ?_)); first | go_values | go_skip | go_guarded | go_step | go_upon | (simp only []; go_at_K))
    ((with_reducible refine (framePut w4 A4 k4 c4 _ ho4.rd hil).mono ?_); rintro e w5 ⟨A5, k5, c5, rfl, ho5, hu5⟩)
    rw [← HBY.out] at ho5
    repeat' ((fail_if_success (with_reducible refine stop_append rfl ?_)); (fail_if_success (with_reducible refine stop_copy rfl ?_)); first | go_values | go_skip | go_guarded | go_step | go_upon | (simp only []; go_at_K))
    go_ret2
    exact ⟨A5, k5, c5, rfl, ho5, (U4.gives (b' := []) (by simp)).trans hu5⟩
end Go.Proofs.YtdmkhmejpgjioaaDoor
