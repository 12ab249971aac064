/- Frames: (agio/frame).first. -/
import Derived.Test.YtdmkhmejpgjioaaDoorFrame2
set_option linter.all false
namespace Go.Proofs.YtdmkhmejpgjioaaDoor
open Go.RowKit Agio

set_option maxRecDepth 100000 in
set_option maxHeartbeats 1000000 in
theorem frameFirst (w : World) (A : Option Addr) (n c : Nat) (b : List UInt8) (hr : RdB w A n b) (hc : n ≤ c) (hcm : c ≤ maxLen) (hb : b.length ≤ 140737488355328) :
    Calls Tryd.prog 89 #[.slice A n c] w fun e w' => e = .returned (.tuple #[.int .i64 (((fst b).1 : Nat) : Int), .int .i64 (((fst b).2 : Nat) : Int)]) ∧ Upd [] [] w w' := by
  obtain rfl := hr.len
  by_cases h8 : b.length < 8
  · have H : Hid (fst b = (0, 3)) := by unfold Hid fst; rw [if_pos h8]
    go_enter Tryd.func89, Tryd.ntmps89
    repeat' ((fail_if_success (with_reducible refine stop_append rfl ?_)); (fail_if_success (with_reducible refine stop_copy rfl ?_)); first | go_values | go_skip | go_guarded | go_step | go_upon | (simp only []; go_at_K))
    go_ret2
    exact ⟨by rw [H.out]; rfl, Upd.refl _ _⟩
  have hx2 : (b.length : Int) ≤ (c : Int) := by omega
  have hx3 : (8 : Int) ≤ (b.length : Int) := by omega
  have hx4 : (4 : Int) ≤ (b.length : Int) := by omega
  have hx5 : (4 : Int) ≤ (c : Int) := by omega
  have hcM : (c : Int) ≤ 9223372036854775807 := by unfold maxLen at hcm; omega
  obtain ⟨ad, rfl, hcell⟩ := hr.2 (by omega)
  have ha : ∀ (i : Nat), 0 < i → ad.add i = ⟨ad.block, ad.off + i, none⟩ := fun i hi => by unfold Addr.add; rw [if_neg (by omega)]
  have c0 : w.cell? ad = some (.int .u8 (b[0].toNat : Int)) := hcell 0 _ (b8s_get b 0 (by omega))
  have c1 := hcell 1 _ (b8s_get b 1 (by omega))
  have c2 := hcell 2 _ (b8s_get b 2 (by omega))
  have c3 := hcell 3 _ (b8s_get b 3 (by omega))
  have c4 := hcell 4 _ (b8s_get b 4 (by omega))
  have c5 := hcell 5 _ (b8s_get b 5 (by omega))
  have c6 := hcell 6 _ (b8s_get b 6 (by omega))
  have c7 := hcell 7 _ (b8s_get b 7 (by omega))
  rw [ha _ (by omega)] at c1 c2 c3 c4 c5 c6 c7
  clear ha hcell
  have hq := fun w : World => run_arrayAt (P := Tryd.prog) (w := w) 166 5 4 (some ad) 4 c Tryd.underlying166 (by omega)
  have hor := or4 b[0].toNat_lt b[1].toNat_lt b[2].toNat_lt b[3].toNat_lt (num4_get (b := b) (by omega))
  have hU := num4_U32 b
  by_cases h5 : 4096 < num4 b
  · have H : Hid (fst b = (0, 5)) := by unfold Hid fst; rw [if_neg h8, if_pos h5]
    generalize num4 b = m at *
    clear c4 c5 c6 c7
    go_enter Tryd.func89, Tryd.ntmps89
    repeat' ((fail_if_success (with_reducible refine stop_append rfl ?_)); (fail_if_success (with_reducible refine stop_copy rfl ?_)); first | go_values | go_skip | go_guarded | go_step | go_upon | (simp only []; go_at_K))
    go_ret2
    exact ⟨by rw [H.out]; rfl, (Upd.refl _ _).alloc _⟩
  by_cases h3 : b.length - 8 < num4 b
  · have H : Hid (fst b = (0, 3)) := by unfold Hid fst; rw [if_neg h8, if_neg h5, if_pos h3]
    generalize num4 b = m at *
    clear c4 c5 c6 c7
    have hd : decide ((b.length : Int) - 8 < m) = true := decide_eq_true (by omega)
    go_enter Tryd.func89, Tryd.ntmps89
    repeat' ((fail_if_success (with_reducible refine stop_append rfl ?_)); (fail_if_success (with_reducible refine stop_copy rfl ?_)); first | go_values | go_skip | go_guarded | go_step | go_upon | (simp only []; go_at_K))
    go_ret2
    exact ⟨by rw [H.out]; rfl, (Upd.refl _ _).alloc _⟩
  have hdh : decide ((b.length : Int) - 8 < (num4 b : Nat)) = false := decide_eq_false (by omega)
  have hx1 : (num4 b : Int) + 8 ≤ (c : Int) := by omega
  have hs4 : (b.drop 4).take 4 = [b[4], b[5], b[6], b[7]] := by
    rw [List.drop_eq_getElem_cons (show 4 < b.length by omega), List.drop_eq_getElem_cons (show 4 + 1 < b.length by omega), List.drop_eq_getElem_cons (show 4 + 1 + 1 < b.length by omega), List.drop_eq_getElem_cons (show 4 + 1 + 1 + 1 < b.length by omega)]; rfl
  have ht4 : b.take 4 = [b[0], b[1], b[2], b[3]] := by
    conv => lhs; rw [← List.drop_zero (l := b)]
    rw [List.drop_eq_getElem_cons (show 0 < b.length by omega), List.drop_eq_getElem_cons (show 0 + 1 < b.length by omega), List.drop_eq_getElem_cons (show 0 + 1 + 1 < b.length by omega), List.drop_eq_getElem_cons (show 0 + 1 + 1 + 1 < b.length by omega)]; rfl
  have hfs : fst b = if num4 (b.drop 4) ≠ fsum [b[0], b[1], b[2], b[3]] ((b.drop 8).take (num4 b)) then (0, 4) else (num4 b, 0) := by unfold fst; rw [if_neg h8, if_neg h5, if_neg h3, ht4]
  have hf4 : four (num4 (b.drop 4)) = [b[4], b[5], b[6], b[7]] := by rw [← take4 (by simp; omega), hs4]
  have hp : RdB w (if c = 8 then some ad else some ⟨ad.block, ad.off + 8, none⟩) (num4 b) ((b.drop 8).take (num4 b)) := by
    have := hr.part hc 8 (num4 b) (by omega)
    simpa [Addr.add] using this
  have CS := fun (W' : World) (h : RdB W' (if c = 8 then some ad else some ⟨ad.block, ad.off + 8, none⟩) (num4 b) ((b.drop 8).take (num4 b))) => frameSum b[0] b[1] b[2] b[3] W' _ _ (c - 8) _ h (by simp; omega)
  rw [show arr4 [b[0], b[1], b[2], b[3]] = .agg #[.int .u8 (b[0].toNat : Int), .int .u8 (b[1].toNat : Int), .int .u8 (b[2].toNat : Int), .int .u8 (b[3].toNat : Int)] from rfl] at CS
  obtain ⟨g4, g5, g6, g7⟩ := four_get hf4
  rw [g4] at c4
  rw [g5] at c5
  rw [g6] at c6
  rw [g7] at c7
  have hXU := fsum_U32 [b[0], b[1], b[2], b[3]] ((b.drop 8).take (num4 b))
  have hyU := num4_U32 (b.drop 4)
  clear g4 g5 g6 g7 hf4 hs4 ht4
  generalize b[0].toNat = x0 at *
  generalize b[1].toNat = x1 at *
  generalize b[2].toNat = x2 at *
  generalize b[3].toNat = x3 at *
  generalize fsum [b[0], b[1], b[2], b[3]] ((b.drop 8).take (num4 b)) = X at *
  generalize num4 (b.drop 4) = y at *
  generalize num4 b = m at *
  rw [arr4_four] at CS
  have HF := Lib.hid hfs; clear hfs
  have hc4 : ¬ c = 4 := by omega
  have hq2 := fun w : World => run_arrayAt (P := Tryd.prog) (w := w) 166 5 4 (some ⟨ad.block, ad.off + 4, none⟩) 4 (c - 4) Tryd.underlying166 (by omega)
  have HSUB : Hid (8 + m - 8 = m) := by unfold Hid; omega
  obtain ⟨A8, hA8⟩ : ∃ A8, (if c = 8 then some ad else some ⟨ad.block, ad.off + 8, none⟩) = A8 := ⟨_, rfl⟩
  rw [hA8] at CS hp
  have HCS : Hid (∀ W', _ → _) := CS
  clear CS
  go_enter Tryd.func89, Tryd.ntmps89
  repeat' ((fail_if_success (with_reducible refine stop_append rfl ?_)); (fail_if_success (with_reducible refine stop_copy rfl ?_)); first | go_values | go_skip | go_guarded | go_step | go_upon | (simp only []; go_at_K))
  have B0 := Blk.new w 166 #[.int .u8 (x0 : Int), .int .u8 (x1 : Int), .int .u8 (x2 : Int), .int .u8 (x3 : Int)]
  have U0 : Upd [] [] w (w.alloc (.cells #[.int .u8 (x0 : Int), .int .u8 (x1 : Int), .int .u8 (x2 : Int), .int .u8 (x3 : Int)] 166)) := (Upd.refl _ _).alloc _
  obtain ⟨W0, hW0⟩ : ∃ W0, w.alloc (.cells #[.int .u8 (x0 : Int), .int .u8 (x1 : Int), .int .u8 (x2 : Int), .int .u8 (x3 : Int)] 166) = W0 := ⟨_, rfl⟩
  rw [hW0] at B0 U0 ⊢
  clear hW0 c0 c1 c2 c3 hor hq
  have hp0 := hp.upd U0 (by simp)
  have d4 := U0.cell c4 (by simp)
  have d5 := U0.cell c5 (by simp)
  have d6 := U0.cell c6 (by simp)
  have d7 := U0.cell c7 (by simp)
  obtain ⟨⟨k0, k1, k2, k3⟩, -⟩ := B0.c4
  clear c4 c5 c6 c7 hp
  have hw1 : IntKind.i64.wrap (8 + (m : Int)) = 8 + (m : Int) := by rw [IntKind.wrap_i64]; omega
  have hw2 : IntKind.i64.wrap (m : Int) = (m : Int) := by rw [IntKind.wrap_i64]; omega
  have hw3 : (8 + (m : Int)).toNat = 8 + m := by omega
  have hw4 : (0 : Int) ≤ (m : Int) := by omega
  have hw5 : 8 + (m : Int) ≤ (c : Int) := by omega
  have hw6 : 8 + m - 8 = m := HSUB.out
  have hw7 : (8 : Int) ≤ 8 + (m : Int) := by omega
  have hw8 : (8 : Int) ≤ (c : Int) := by omega
  by_cases hxy : y = X
  · have H : Hid (fst b = (m, 0)) := by have := HF.out; rw [if_neg (by simpa using hxy)] at this; exact this
    subst hxy
    have hnq := fun w : World => neq4 ((y : Int) % 256) ((y : Int) / 256 % 256) ((y : Int) / 65536 % 256) ((y : Int) / 16777216 % 256) ((y : Int) % 256) ((y : Int) / 256 % 256) ((y : Int) / 65536 % 256) ((y : Int) / 16777216 % 256) w
    simp only [beq_self_eq_true, Bool.and_self, Bool.not_true] at hnq
    clear HF
    go_region_with (go_at_call 83; refine (HCS.out _ (by first | exact hp0 | exact Rd.drew hp0)).mono ?_; rintro e w5 ⟨rfl, hu5⟩; have e4 := hu5.cell d4 (by simp); have e5 := hu5.cell d5 (by simp); have e6 := hu5.cell d6 (by simp); have e7 := hu5.cell d7 (by simp))
    all_goals (repeat' ((fail_if_success (with_reducible refine stop_append rfl ?_)); (fail_if_success (with_reducible refine stop_copy rfl ?_)); first | go_values | go_skip | go_guarded | go_step | go_upon | (simp only []; go_at_K)))
    all_goals go_ret2
    all_goals exact ⟨by rw [H.out]; rfl, U0.drew.trans hu5⟩
  · have H : Hid (fst b = (0, 4)) := by have := HF.out; rw [if_pos hxy] at this; exact this
    have hnq : ∀ w : World, _ := fun w => (neq4 ((y : Int) % 256) ((y : Int) / 256 % 256) ((y : Int) / 65536 % 256) ((y : Int) / 16777216 % 256) ((X : Int) % 256) ((X : Int) / 256 % 256) ((X : Int) / 65536 % 256) ((X : Int) / 16777216 % 256) w).trans (by rw [four_ne hXU hyU hxy])
    clear HF
    go_region_with (go_at_call 83; refine (HCS.out _ (by first | exact hp0 | exact Rd.drew hp0)).mono ?_; rintro e w5 ⟨rfl, hu5⟩; have e4 := hu5.cell d4 (by simp); have e5 := hu5.cell d5 (by simp); have e6 := hu5.cell d6 (by simp); have e7 := hu5.cell d7 (by simp))
    all_goals (repeat' ((fail_if_success (with_reducible refine stop_append rfl ?_)); (fail_if_success (with_reducible refine stop_copy rfl ?_)); first | go_values | go_skip | go_guarded | go_step | go_upon | (simp only []; go_at_K)))
    all_goals go_ret2
    all_goals exact ⟨by rw [H.out]; rfl, U0.drew.trans hu5⟩
end Go.Proofs.YtdmkhmejpgjioaaDoor
