/- Frames: (agio/frame).Put, Take, Scan. -/
import Derived.Test.YtdmkhmejpgjioaaDoorFrame3
set_option linter.all false
namespace Go.Proofs.YtdmkhmejpgjioaaDoor
open Go.RowKit Agio

set_option maxRecDepth 100000 in
set_option maxHeartbeats 1000000 in
theorem framePut (w : World) (A : Option Addr) (n c : Nat) (b : List UInt8) (hr : RdB w A n b) (hb : b.length ≤ 4096) :
    Calls Tryd.prog 60 #[.slice A n c] w fun e w' => ∃ A' k' c', e = .returned (.tuple #[.slice A' k' c', .int .i64 0]) ∧ OwnB 5 w' A' k' c' (put b) ∧ Upd [] (ablk A') w w' := by
  obtain rfl := hr.len
  have hU : U32 b.length := by unfold U32; omega
  obtain ⟨z0, z1, z2, z3, hz⟩ : ∃ z0 z1 z2 z3, four b.length = [z0, z1, z2, z3] := ⟨_, _, _, _, rfl⟩
  obtain ⟨s0, s1, s2, s3, hs⟩ : ∃ s0 s1 s2 s3, four (fsum [z0, z1, z2, z3] b) = [s0, s1, s2, s3] := ⟨_, _, _, _, rfl⟩
  have HP : Hid (put b = [z0, z1, z2, z3] ++ [s0, s1, s2, s3] ++ b) := by unfold Hid put; rw [hz, hs]
  have C1 := frameFour b.length hU
  rw [hz] at C1
  have C2 := fun w A n c h hb => frameSum z0 z1 z2 z3 w A n c b h hb
  rw [hs] at C2
  clear hz hs hU
  have e4 : ∀ a b c d : UInt8, arr4 [a, b, c, d] = .agg #[.int .u8 (a.toNat : Int), .int .u8 (b.toNat : Int), .int .u8 (c.toNat : Int), .int .u8 (d.toNat : Int)] := fun _ _ _ _ => rfl
  rw [e4] at C1 C2
  rw [e4] at C2
  clear e4
  go_enter Tryd.func60, Tryd.ntmps60
  repeat' ((fail_if_success (with_reducible refine stop_append rfl ?_)); (fail_if_success (with_reducible refine stop_copy rfl ?_)); first | go_values | go_skip | go_guarded | go_step | go_upon | (simp only []; go_at_K))
  refine (C1 w).mono ?_
  rintro e w1 ⟨rfl, hu1⟩
  repeat' ((fail_if_success (with_reducible refine stop_append rfl ?_)); (fail_if_success (with_reducible refine stop_copy rfl ?_)); first | go_values | go_skip | go_guarded | go_step | go_upon | (simp only []; go_at_K))
  refine (C2 _ A _ c ((hr.upd hu1 (by simp)).alloc _) (by omega)).mono ?_
  rintro e w2 ⟨rfl, hu2⟩
  have hZ := (Blk.new w1 166 #[.int .u8 (z0.toNat : Int), .int .u8 (z1.toNat : Int), .int .u8 (z2.toNat : Int), .int .u8 (z3.toNat : Int)]).upd hu2 (by simp)
  have U2 : Upd [] [] w w2 := (hu1.alloc _).trans hu2
  clear C1 C2 hu1 hu2
  have hw1 : 8 + (b.length : Int) ≤ 5000 := by omega
  repeat' ((fail_if_success at_make); (fail_if_success (with_reducible refine stop_append rfl ?_)); (fail_if_success (with_reducible refine stop_copy rfl ?_)); first | go_values | go_skip | go_guarded | go_step | go_upon | (simp only []; go_at_K))
  have hS := Blk.new w2 166 #[.int .u8 (s0.toNat : Int), .int .u8 (s1.toNat : Int), .int .u8 (s2.toNat : Int), .int .u8 (s3.toNat : Int)]
  have hZ := hZ.alloc (.cells #[.int .u8 (s0.toNat : Int), .int .u8 (s1.toNat : Int), .int .u8 (s2.toNat : Int), .int .u8 (s3.toNat : Int)] 166)
  have U3 := U2.alloc (.cells #[.int .u8 (s0.toNat : Int), .int .u8 (s1.toNat : Int), .int .u8 (s2.toNat : Int), .int .u8 (s3.toNat : Int)] 166)
  obtain ⟨i, hi, hz0, hsz, hby⟩ := info_parts infoU8
  refine wpList_make_own _ rfl _ _ 24 rfl 0 5 i (.int .u8 0) 1 Tryd.underlying24 hi hz0 hsz .i64 .i64 (8 + (b.length : Int)) (8 + b.length) rfl rfl (by omega) (by rw [hby]; omega) (by unfold maxLen; omega) (by omega) ?_
  intro w4 ho4 hg4
  clear hi hz0 hsz hby
  have hS4 := hS.grown hg4 (by simp)
  have hZ4 := hZ.grown hg4 (by simp)
  have U4 := U3.grown hg4 (fun k h => by cases h)
  rw [World.size_alloc] at ho4 ⊢
  have O4 : OwnB 5 w4 (some ⟨w2.heap.size + 1, 0, none⟩) 0 (8 + b.length) [] := ⟨rfl, ho4⟩
  have rZ4 : RdB w4 (some ⟨w1.heap.size, 0, none⟩) 4 [z0, z1, z2, z3] := Rd.blk (cs := b8s [z0, z1, z2, z3]) hZ4 rfl
  have rS4 : RdB w4 (some ⟨w2.heap.size, 0, none⟩) 4 [s0, s1, s2, s3] := Rd.blk (cs := b8s [s0, s1, s2, s3]) hS4 rfl
  have l1 := U2.size
  clear hS hZ U3 hg4 ho4 hS4 hZ4 U2
  repeat' ((fail_if_success (with_reducible refine stop_append rfl ?_)); (fail_if_success (with_reducible refine stop_copy rfl ?_)); first | go_values | go_skip | go_guarded | go_step | go_upon | (simp only []; go_at_K))
  refine wpList_appB rfl _ _ 24 rfl 5 Tryd.underlying24 infoU8 O4 rfl rZ4 rfl (by simp) ?_
  intro A5 k5 c5 w5 ho5 hu5
  have rS5 := rS4.upd hu5 (by simp [ablk])
  have U5 := (U4.gives (b' := ablk (some ⟨w2.heap.size + 1, 0, none⟩)) (by simp [ablk]; omega)).trans hu5
  clear O4 rZ4 rS4 U4 hu5
  repeat' ((fail_if_success (with_reducible refine stop_append rfl ?_)); (fail_if_success (with_reducible refine stop_copy rfl ?_)); first | go_values | go_skip | go_guarded | go_step | go_upon | (simp only []; go_at_K))
  refine wpList_appB rfl _ _ 24 rfl 5 Tryd.underlying24 infoU8 ho5 rfl rS5 rfl (by simp) ?_
  intro A6 k6 c6 w6 ho6 hu6
  have U6 := U5.trans hu6
  have hr6 := hr.upd U6 (by simp)
  clear ho5 rS5 U5 hu6
  repeat' ((fail_if_success (with_reducible refine stop_append rfl ?_)); (fail_if_success (with_reducible refine stop_copy rfl ?_)); first | go_values | go_skip | go_guarded | go_step | go_upon | (simp only []; go_at_K))
  refine wpList_appB rfl _ _ 24 rfl 5 Tryd.underlying24 infoU8 ho6 rfl hr6 rfl (by simp; omega) ?_
  intro A7 k7 c7 w7 ho7 hu7
  have U7 := U6.trans hu7
  rw [List.nil_append, ← HP.out] at ho7
  clear ho6 hr6 U6 hu7
  repeat' ((fail_if_success (with_reducible refine stop_append rfl ?_)); (fail_if_success (with_reducible refine stop_copy rfl ?_)); first | go_values | go_skip | go_guarded | go_step | go_upon | (simp only []; go_at_K))
  go_ret2
  exact ⟨A7, k7, c7, rfl, ho7, U7⟩

/-- A slice of bytes among others. -/
structure Sl where
  A : Option Addr
  k : Nat
  c : Nat
  b : List UInt8
def Sl.val (x : Sl) : Value := .slice x.A x.k x.c
theorem infoSl : (Tryd.prog.info? 24).map (fun i => (i.zero, i.size, i.bytes)) = some (some (.slice none 0 0), 1, 24) := by kernel_rfl
/-- A row of slices of bytes, all the call's own. -/
structure OwnL (w : World) (A : Option Addr) (k c : Nat) (l : List Sl) : Prop where
  len : k = l.length
  own : Own 24 1 w A k c (l.map Sl.val)
  each : ∀ x ∈ l, OwnB 5 w x.A x.k x.c x.b
theorem _root_.Agio.Own.disj {e e' : TypeId} {size size' : Nat} {w : World} {A A' : Option Addr} {n n' c c' : Nat} {xs xs' : List Value} (h : Own e size w A n c xs) (h' : Own e' size' w A' n' c' xs') (hne : e ≠ e') : ∀ k ∈ ablk A, k ∉ ablk A' := by
  intro k hk hm
  rcases h.2 with ⟨hv, _⟩ | ⟨g, cap, cur, hv, _, hg, _⟩
  · injection hv with hA; subst hA; simp [ablk] at hk
  · injection hv with hA; subst hA
    rcases h'.2 with ⟨hv', _⟩ | ⟨g', cap', cur', hv', _, hg', _⟩
    · injection hv' with hA'; subst hA'; simp [ablk] at hm
    · injection hv' with hA'; subst hA'
      simp [ablk] at hk hm
      subst hk
      subst hm
      rw [hg] at hg'
      injection hg' with hg'
      injection hg' with _ ht
      exact hne ht
theorem OwnL.upd {w w' : World} {A : Option Addr} {k c : Nat} {l : List Sl} {b : List Nat} (h : OwnL w A k c l) (hu : Upd [] b w w') : OwnL w' A k c l :=
  ⟨h.len, h.own.upd hu (by simp), fun x hx => (h.each x hx).upd hu (by simp)⟩
theorem OwnL.push {w w' : World} {A A' : Option Addr} {k c c' : Nat} {l : List Sl} {x : Sl} (h : OwnL w A k c l) (hx : OwnB 5 w x.A x.k x.c x.b)
    (ho : Own 24 1 w' A' (k + 1) c' (l.map Sl.val ++ [x.val])) (hu : Upd (ablk A) (ablk A') w w') : OwnL w' A' (k + 1) c' (l ++ [x]) :=
  ⟨by simp [h.len], by simpa using ho, fun y hy => by
    rcases List.mem_append.1 hy with hy | hy
    · exact (h.each y hy).upd hu ((h.each y hy).own.disj h.own (by decide))
    · obtain rfl := List.mem_singleton.1 hy
      exact hx.upd hu (hx.own.disj h.own (by decide))⟩

set_option maxRecDepth 100000 in
set_option maxHeartbeats 1000000 in
theorem frameScan (w : World) (A : Option Addr) (n c : Nat) (b : List UInt8) (hr : RdB w A n b) (hc : n ≤ c) (hcm : c ≤ maxLen) (hb : b.length ≤ 1099511627776) :
    Calls Tryd.prog 99 #[.slice A n c] w fun e w' => ∃ A' k' c' l, e = .returned (.tuple #[.slice A' k' c', .int .i64 (((scan b).2 : Nat) : Int)]) ∧ OwnL w' A' k' c' l ∧ l.map Sl.b = (scan b).1 ∧ Upd [] (ablk A') w w' := by
  obtain rfl := hr.len
  have hcM : (c : Int) ≤ 9223372036854775807 := by unfold maxLen at hcm; omega
  go_enter Tryd.func99, Tryd.ntmps99
  repeat' ((fail_if_success (with_reducible refine stop_append rfl ?_)); (fail_if_success (with_reducible refine stop_copy rfl ?_)); first | go_values | go_skip | go_guarded | go_step | go_upon | (simp only []; go_at_K))
  go_loopw [4, 5] (fun v4 v5 wr => ∃ (a : Nat) (A1 : Option Addr) (k1 c1 : Nat) (l : List Sl), v5 = .int .i64 (a : Int) ∧ v4 = .slice A1 k1 c1 ∧ a ≤ b.length ∧ l.length * 8 ≤ a ∧ OwnL wr A1 k1 c1 l ∧ (scan b = (l.map Sl.b ++ (scan (b.drop a)).1, a + (scan (b.drop a)).2)) ∧ Upd [] (ablk A1) w wr)
    (fun _ v5 _ => b.length - (intOf v5).toNat)
  case atStart => exact ⟨0, none, 0, 0, [], rfl, rfl, by omega, by simp, ⟨rfl, Own.nil _ _ _, by simp⟩, by simp, Upd.refl _ _⟩
  case round =>
    obtain ⟨a, A1, k1, c1, l, rfl, rfl, ha, hl8, ho, hsc, hu⟩ := hrel
    have HS := Lib.hid hsc; clear hsc
    have hrr := (hr.upd hu (by simp)).rest hc a ha
    have C := frameFirst wr _ _ (c - a) _ hrr (by omega) (by omega) (by rw [List.length_drop]; omega)
    obtain ⟨m, bad, hf⟩ : ∃ m bad, fst (b.drop a) = (m, bad) := ⟨_, _, rfl⟩
    rw [hf] at C
    have hx1 : (a : Int) ≤ (b.length : Int) := by omega
    by_cases h0 : bad = 0
    · subst h0
      have hfk := fst_ok hf
      rw [List.length_drop] at hfk
      have h1 := hfk.1
      have h2 := hfk.2.1
      have HY := Lib.hid (scan_yes hf)
      have hca : ¬ c = a := by omega
      rw [if_neg hca] at hrr C
      obtain ⟨a8, ha8⟩ : ∃ a8, a + 8 = a8 := ⟨_, rfl⟩
      have hcast : (a : Int) + 8 = (a8 : Int) := by omega
      have hrp := hr.part hc a8 m (by omega)
      have hb8 : b.drop a8 = (b.drop a).drop 8 := by rw [List.drop_drop, ha8]
      have hbm : b.drop (a + (8 + m)) = (b.drop a).drop (8 + m) := by rw [List.drop_drop]
      rw [hb8] at hrp
      rw [← hbm] at HY
      generalize ((b.drop a).drop 8).take m = x at *
      obtain ⟨A8, hA8⟩ : ∃ A8, (if c = a8 then A else A.map (fun x => x.add a8)) = A8 := ⟨_, rfl⟩
      rw [hA8] at hrp
      have hx2 : (a8 : Int) + m ≤ (c : Int) := by omega
      have hx3 : (a8 : Int) ≤ (a8 : Int) + m := by omega
      have hxl : x.length ≤ 4096 := by have := hrp.len; omega
      have HEND : Hid (a + (8 + m) = a8 + m) := by unfold Hid; omega
      have hx5 : a + (8 + m) ≤ b.length := by omega
      clear hf hfk hca hb8 hbm ha8
      repeat' ((fail_if_success (with_reducible refine stop_append rfl ?_)); (fail_if_success (with_reducible refine stop_copy rfl ?_)); first | go_values | go_skip | go_guarded | go_step | go_upon | (simp only []; go_at_K))
      ((with_reducible refine C.mono ?_); rintro e w1 ⟨rfl, hu1⟩)
      have U1 := hu.trans (hu1.up _)
      have ho1 := ho.upd hu1
      clear C hu1 ho hrr
      repeat' ((fail_if_success (with_reducible refine stop_append rfl ?_)); (fail_if_success (with_reducible refine stop_copy rfl ?_)); first | go_values | go_skip | go_guarded | go_step | go_upon | (simp only []; go_at_K))
      ((with_reducible refine (bytesClone w1 A8 m _ x (hrp.upd U1 (by simp)) (by omega)).mono ?_); rintro e w2 ⟨A2, k2, c2, rfl, ho2, hu2⟩)
      have U2 := U1.trans (hu2.up _)
      have ho2' := ho1.upd hu2
      have hlen : l.length ≤ 1099511627776 := by omega
      have hk1 := ho2'.len
      repeat' ((fail_if_success (with_reducible refine stop_append rfl ?_)); (fail_if_success (with_reducible refine stop_copy rfl ?_)); first | go_values | go_skip | go_guarded | go_step | go_upon | (simp only []; go_at_K))
      refine wpList_push rfl _ _ 197 rfl 24 Tryd.underlying197 infoSl rfl (by decide) ho2'.own rfl _ rfl (news := [.slice A2 k2 c2]) rfl rfl rfl (by unfold maxLen; omega) (by omega) ?_
      intro A3 c3 w3 ho3 hu3
      have ho3' := ho2'.push (x := ⟨A2, k2, c2, x⟩) ho2 ho3 hu3
      clear ho1 ho2 ho2' ho3 hk1
      repeat' ((fail_if_success (with_reducible refine stop_append rfl ?_)); (fail_if_success (with_reducible refine stop_copy rfl ?_)); first | go_values | go_skip | go_guarded | go_step | go_upon | (simp only []; go_at_K))
      refine ⟨⟨a + (8 + m), A3, _, c3, l ++ [⟨A2, k2, c2, x⟩], ?_, rfl, hx5, by simp; omega, ho3', ?_, U2.trans hu3⟩, by simp [intOf]; omega⟩
      · congr 1
      · rw [HS.out, HY.out]; simp; omega
    · have HN : Hid (scan (b.drop a) = ([], 0)) := scan_no (by rw [hf]; exact h0)
      have hz : ((bad : Int) != 0) = true := by simp; omega
      clear hf h0
      repeat' ((fail_if_success (with_reducible refine stop_append rfl ?_)); (fail_if_success (with_reducible refine stop_copy rfl ?_)); first | go_values | go_skip | go_guarded | go_step | go_upon | (simp only []; go_at_K))
      ((with_reducible refine C.mono ?_); rintro e w1 ⟨rfl, hu1⟩)
      repeat' ((fail_if_success (with_reducible refine stop_append rfl ?_)); (fail_if_success (with_reducible refine stop_copy rfl ?_)); first | go_values | go_skip | go_guarded | go_step | go_upon | (simp only []; go_at_K))
      go_ret2
      refine ⟨A1, k1, c1, l, ?_, ho.upd hu1, ?_, (hu.trans (hu1.up _))⟩
      · rw [HS.out, HN.out]; rfl
      · rw [HS.out, HN.out]; simp
end Go.Proofs.YtdmkhmejpgjioaaDoor
