/- agiolaw20.SideKeeps. -/
import Derived.Test.YtdmmpcdilkcfjaaFill
import Derived.Test.YtdmmpcdilkcfjaaOrdEq
import Derived.Test.YtdmmpcdilkcfjaaOrdIn
import Derived.Test.YtdmmpcdilkcfjaaSideA
import Derived.Test.YtdmmpcdilkcfjaaPlainKeeps
namespace Go.Proofs.Ytdmmpcdilkcfjaa
open Go.RowKit Agio Go.Maps

theorem upd_own {a b : List Nat} {w w3 w4 : World} (U : Upd [] [] w w3) (q : Upd a b w3 w4) (hF : ∀ k ∈ a, w.heap.size ≤ k) : Upd [] [] w w4 :=
  ⟨q.os.trans U.os, q.tape.trans U.tape, q.output.trans U.output, Nat.le_trans U.size q.size,
    fun k hk _ => (q.block k (Nat.lt_of_lt_of_le hk U.size) fun hm => by have := hF k hm; omega).trans (U.block k hk (by simp)), fun k hk => by cases hk⟩
theorem fillL_has (s : Int) (b : List UInt8) (k : Nat) : ∀ j : Nat, j < k → ∃ o, findO (1 + (j : Int)) (fillL s b k) = some o := by
  intro j hj
  have h : ∃ o ∈ fillL s b k, o.id = 1 + (j : Int) := by
    induction k with
    | zero => omega
    | succ k ih =>
      by_cases h0 : j = k
      · subst h0; exact ⟨mkO s j (b.getD j 0), mem_insO.2 (.inl rfl), by simp only [mkO]; omega⟩
      · obtain ⟨o, ho, e⟩ := ih (by omega)
        exact ⟨o, mem_insO.2 (.inr ho), e⟩
  obtain ⟨o, ho, e⟩ := h
  cases hf : findO (1 + (j : Int)) (fillL s b k) with
  | some x => exact ⟨x, rfl⟩
  | none => exact absurd e (findO_none hf o ho)

set_option maxRecDepth 100000 in
set_option maxHeartbeats 4000000 in
theorem sideKeeps_any (w : World) (sell : Bool) (A : Option Addr) (n c : Nat) (b : List UInt8) (hb : RdB w A n b) (cut drop : UInt8) :
    Calls Try.prog 3 #[.bool sell, .slice A n c, .int .u8 (cut.toNat : Int), .int .u8 (drop.toNat : Int)] w fun e w' => e = .returned (.bool true) ∧ Upd [] [] w w' := by
  obtain rfl := hb.len
  have hs12 : (if sell = true then 2 else 1 : Int) = 1 ∨ (if sell = true then 2 else 1 : Int) = 2 := by cases sell <;> simp
  have hm60 : min b.length 60 ≤ 60 := Nat.min_le_right _ _
  obtain ⟨ct, hct⟩ : ∃ ct, cut.toNat = ct := ⟨_, rfl⟩
  obtain ⟨dt, hdt⟩ : ∃ dt, drop.toNat = dt := ⟨_, rfl⟩
  have hct2 : ct < 256 := by rw [← hct]; exact cut.toNat_lt
  have hdt2 : dt < 256 := by rw [← hdt]; exact drop.toNat_lt
  rw [hct, hdt]
  clear hct hdt
  go_enter Try.func3, Try.ntmps3
  repeat' ((fail_if_success (with_reducible refine stop_append rfl ?_)); (fail_if_success (with_reducible refine stop_copy rfl ?_)); first | go_values | go_skip | go_guarded | go_step | go_upon | (simp only []; go_at_K))
  ((with_reducible refine (awake20 _).mono ?_); rintro e w1 ⟨rfl, hu1⟩)
  have hb1 := hb.upd hu1 (by simp)
  repeat' ((fail_if_success (with_reducible refine stop_append rfl ?_)); (fail_if_success (with_reducible refine stop_copy rfl ?_)); first | go_values | go_skip | go_guarded | go_step | go_upon | (simp only []; go_at_K))
  ((with_reducible refine (law20Pick _ sell).mono ?_); rintro e w2 ⟨rfl, rfl⟩)
  repeat' ((fail_if_success (with_reducible refine stop_append rfl ?_)); (fail_if_success (with_reducible refine stop_copy rfl ?_)); first | go_values | go_skip | go_guarded | go_step | go_upon | (simp only []; go_at_K))
  ((with_reducible refine (law20Filled _ _ hs12 A _ c b hb1).mono ?_); rintro e w2 ⟨g, bo, br, R, rfl, h2, hu2⟩)
  have U2 : Upd [] [] w w2 := (hu1.trans hu2).gives (by simp)
  have hfr : Hid (∀ k ∈ fpS g bo br R, w.heap.size ≤ k) := Lib.hid fun k hk => by
    rcases hu2.fresh k hk with h | h
    · cases h
    · exact Nat.le_trans hu1.size h
  generalize hs : (if sell = true then 2 else 1 : Int) = s at *
  have hlen := fillL_len s b (min b.length 60)
  have hmi : min (b.length : Int) 60 = ((min b.length 60 : Nat) : Int) := by omega
  have hid := fillL_has s b (min b.length 60)
  have hq := fun o => @fillL_ids s b (min b.length 60) o
  obtain ⟨m, hm⟩ : ∃ m, min b.length 60 = m := ⟨_, rfl⟩
  obtain ⟨L, hL⟩ : ∃ L, fillL s b m = L := ⟨_, rfl⟩
  have hm6 : m ≤ 60 := by omega
  rw [hm] at hlen h2 hmi hid hq
  rw [hL] at hlen h2 hid hq
  have HQ := Lib.hid hq
  have HI := Lib.hid hid
  clear hm hL hm60 hs12 hb hb1 hu1 hu2 hs hid hq
  rcases Nat.eq_zero_or_pos m with hz | hz
  · have hz1 : ((m : Int) == 0) = true := by subst hz; rfl
    have C := sideLen w2 g bo br s R L h2
    rw [hlen] at C
    clear hz hlen h2
    repeat' ((fail_if_success (with_reducible refine stop_append rfl ?_)); (fail_if_success (with_reducible refine stop_copy rfl ?_)); first | go_values | go_skip | go_guarded | go_step | go_upon | (simp only []; go_at_K))
    ((with_reducible refine C.mono ?_); rintro e w3 ⟨rfl, rfl⟩)
    repeat' ((fail_if_success (with_reducible refine stop_append rfl ?_)); (fail_if_success (with_reducible refine stop_copy rfl ?_)); first | go_values | go_skip | go_guarded | go_step | go_upon | (simp only []; go_at_K))
    go_ret
    exact ⟨rfl, U2⟩
  · have hz1 : ((m : Int) == 0) = false := beq_false_of_ne (by omega)
    have hr1 : (ct : Int).tmod (m : Int) = ((ct % m : Nat) : Int) := rfl
    have hr2 : (dt : Int).tmod (m : Int) = ((dt % m : Nat) : Int) := rfl
    have hcm : ct % m < m := Nat.mod_lt _ hz
    have hdm : dt % m < m := Nat.mod_lt _ hz
    generalize ct % m = cm at *
    generalize dt % m = dm at *
    obtain ⟨oc, hoc⟩ := HI.out cm hcm
    obtain ⟨hocL, hocI⟩ := findO_some hoc
    have hocq := (HQ.out oc hocL).2.2.1
    have hless : lessB 1 oc.qty = true := by simp [lessB]; omega
    have hwc : (Lit.int .i64 (1 + (cm : Int))).wf = true := wf64 (by omega) (by omega)
    have hwd : (Lit.int .i64 (1 + (dm : Int))).wf = true := wf64 (by omega) (by omega)
    repeat' ((fail_if_success (with_reducible refine stop_append rfl ?_)); (fail_if_success (with_reducible refine stop_copy rfl ?_)); first | go_values | go_skip | go_guarded | go_step | go_upon | (simp only []; go_at_K))
    ((with_reducible refine (sideList w2 g bo br s R L h2).mono ?_); rintro e w3 ⟨A3, c3, rfl, ho3, hu3⟩)
    have h3 := h2.upd0 hu3
    have U3 : Upd [] [] w w3 := U2.trans (hu3.gives (by simp))
    have hd3 : ∀ k ∈ ablk A3, k ∉ fpS g bo br R := fun k hk hm => by
      rcases hu3.fresh k hk with h | h
      · cases h
      · have := h2.lt k hm; omega
    clear h2 U2 hu3
    repeat' ((fail_if_success (with_reducible refine stop_append rfl ?_)); (fail_if_success (with_reducible refine stop_copy rfl ?_)); first | go_values | go_skip | go_guarded | go_step | go_upon | (simp only []; go_at_K))
    ((with_reducible refine (sideCut w3 g bo br s R L h3 (1 + (cm : Int)) 1 hwc oc hoc hless).mono ?_); rintro e w4 ⟨rfl, h4, hu4⟩)
    have U4 := upd_own U3 hu4 hfr.out
    have ho4 := ho3.upd hu4 hd3
    clear h3 U3 ho3 hu4 hd3 hless hoc hocL hocI hocq
    repeat' ((fail_if_success (with_reducible refine stop_append rfl ?_)); (fail_if_success (with_reducible refine stop_copy rfl ?_)); first | go_values | go_skip | go_guarded | go_step | go_upon | (simp only []; go_at_K))
    ((with_reducible refine (sideList w4 g bo br s R _ h4).mono ?_); rintro e w5 ⟨A5, c5, rfl, ho5, hu5⟩)
    have h5 := h4.upd0 hu5
    have U5 : Upd [] [] w w5 := U4.trans (hu5.gives (by simp))
    have hd5 : ∀ k ∈ ablk A5, k ∉ fpS g bo br R := fun k hk hm => by
      rcases hu5.fresh k hk with h | h
      · cases h
      · have := h4.lt k hm; omega
    have hu50 : Upd [] [] w4 w5 := hu5.gives (by simp)
    have ho5' := ho4.upd hu50 (by simp)
    have hlen2 : (cutO (1 + (cm : Int)) 1 L).length = m := by rw [cutO_len]; exact hlen
    have hL2 : ∀ (i : Nat) (hi : i < L.length) (hi2 : i < (cutO (1 + (cm : Int)) 1 L).length), (cutO (1 + (cm : Int)) 1 L)[i] = if L[i].id = 1 + (cm : Int) then { L[i] with qty := 1 } else L[i] := fun i hi hi2 => by simp [cutO]
    have hid2 : (cutO (1 + (cm : Int)) 1 L).map Ord.id = L.map Ord.id := cutO_ids _ _ _
    have hfd : ∃ od, findO (1 + (dm : Int)) (cutO (1 + (cm : Int)) 1 L) = some od := by
      obtain ⟨o, ho⟩ := HI.out dm hdm
      rw [findO_cut, ho]
      exact ⟨_, rfl⟩
    clear h4
    generalize cutO (1 + (cm : Int)) 1 L = L2 at *
    rw [hlen2] at ho5
    rw [hlen] at ho5'
    have ra : RdS Ord.cells 7 w5 A3 m L := ⟨hlen.symm, ho5'.rd⟩
    have rb : RdS Ord.cells 7 w5 A5 m L2 := ⟨hlen2.symm, ho5.rd⟩
    rw [hlen2, hlen]
    have H1 := Lib.hid hlen
    have H2 := Lib.hid hlen2
    have HL2 := Lib.hid hL2
    have HD2 := Lib.hid hid2
    clear U4 ho4 hu5 hu50 ho5' hlen hlen2 hL2 hid2 hwc HI HQ
    have hm1 : IntKind.i64.wrap ((m : Int) - 1) = (m : Int) - 1 := by rw [IntKind.wrap_i64]; omega
    have E := neSelfOrd
    repeat' ((fail_if_success (with_reducible refine stop_append rfl ?_)); (fail_if_success (with_reducible refine stop_copy rfl ?_)); first | go_values | go_skip | go_guarded | go_step | go_upon | (simp only []; go_at_K))
    go_loopw [17] (fun v17 wr => ∃ i : Nat, i ≤ m ∧ v17 = .int .i64 (i : Int) ∧ Upd [] [] w5 wr) (fun v17 _ => m - (intOf v17).toNat)
    case atStart => exact ⟨0, by omega, rfl, Upd.refl _ _⟩
    case round =>
      obtain ⟨i, hi, rfl, U⟩ := hrel
      by_cases hil : i < m
      · have hlt' : (i : Int) < (m : Int) := by omega
        have hi1 : i < L.length := by rw [H1.out]; exact hil
        have hi2 : i < L2.length := by rw [H2.out]; exact hil
        have hw1 : IntKind.i64.wrap ((i : Int) + 1) = (i : Int) + 1 := by rw [IntKind.wrap_i64]; omega
        have ra' : RdS Ord.cells 7 wr A3 m L := ⟨ra.len, ra.rd.upd U (by simp)⟩
        obtain ⟨ad, rfl, a0, a1, a2, a3, a4, a5, a6⟩ := ord_at ra' hi1
        have hy := HL2.out i hi1 hi2
        have UA : ∀ o, Upd [] [] w5 (wr.alloc o) := fun o => U.alloc o
        by_cases he : L[i].id = 1 + (cm : Int)
        · rw [if_pos he] at hy
          have he1 : (L[i].id == 1 + (cm : Int)) = true := by rw [he]; exact beq_self_eq_true _
          obtain ⟨⟨z0, z1, z2, z3, z4, z5, z6⟩, zz⟩ := (Blk.new wr 32 #[.int .i64 L[i].id, .int .i64 L[i].client, .int .i64 L[i].side, .int .i64 L[i].price, .int .i64 L[i].qty, .bool L[i].peg, .int .i64 L[i].off]).c7
          obtain ⟨W, eW⟩ : ∃ W, wr.alloc (.cells #[.int .i64 L[i].id, .int .i64 L[i].client, .int .i64 L[i].side, .int .i64 L[i].price, .int .i64 1, .bool L[i].peg, .int .i64 L[i].off] 32) = W := ⟨_, rfl⟩
          have UW : Upd [] [] w5 W := by rw [← eW]; exact U.alloc _
          have BW : Blk W wr.heap.size 32 #[.int .i64 L[i].id, .int .i64 L[i].client, .int .i64 L[i].side, .int .i64 L[i].price, .int .i64 1, .bool L[i].peg, .int .i64 L[i].off] := by rw [← eW]; exact Blk.new _ _ _
          have rb' : RdS Ord.cells 7 W A5 m L2 := ⟨rb.len, rb.rd.upd UW (by simp)⟩
          obtain ⟨ad', rfl, b0, b1, b2, b3, b4', b5, b6⟩ := ord_at rb' hi2
          obtain ⟨⟨p0, p1, p2, p3, p4, p5, p6⟩, -⟩ := BW.c7
          rw [hy] at b0 b1 b2 b3 b4' b5 b6
          generalize L[i] = x at *
          clear ra rb ra' rb' BW he hy ho5 h5 hfd zz
          repeat' ((fail_if_success (with_reducible refine stop_append rfl ?_)); (fail_if_success (with_reducible refine stop_copy rfl ?_)); first | go_values | go_skip | go_guarded | go_step | go_upon | (simp only []; go_at_K))
          go_quiet (fail)
          repeat' ((fail_if_success (with_reducible refine stop_append rfl ?_)); (fail_if_success (with_reducible refine stop_copy rfl ?_)); first | go_values | go_skip | go_guarded | go_step | go_upon | (simp only []; go_at_K))
          exact ⟨⟨i + 1, by omega, by simp, UW.drewN _⟩, by simp [intOf]; omega⟩
        · rw [if_neg he] at hy
          have he1 : (L[i].id == 1 + (cm : Int)) = false := beq_false_of_ne he
          obtain ⟨W, eW⟩ : ∃ W, wr.alloc (.cells #[.int .i64 L[i].id, .int .i64 L[i].client, .int .i64 L[i].side, .int .i64 L[i].price, .int .i64 L[i].qty, .bool L[i].peg, .int .i64 L[i].off] 32) = W := ⟨_, rfl⟩
          have UW : Upd [] [] w5 W := by rw [← eW]; exact U.alloc _
          have BW : Blk W wr.heap.size 32 #[.int .i64 L[i].id, .int .i64 L[i].client, .int .i64 L[i].side, .int .i64 L[i].price, .int .i64 L[i].qty, .bool L[i].peg, .int .i64 L[i].off] := by rw [← eW]; exact Blk.new _ _ _
          have rb' : RdS Ord.cells 7 W A5 m L2 := ⟨rb.len, rb.rd.upd UW (by simp)⟩
          obtain ⟨ad', rfl, b0, b1, b2, b3, b4', b5, b6⟩ := ord_at rb' hi2
          obtain ⟨⟨p0, p1, p2, p3, p4, p5, p6⟩, -⟩ := BW.c7
          rw [hy] at b0 b1 b2 b3 b4' b5 b6
          generalize L[i] = x at *
          clear ra rb ra' rb' BW he hy ho5 h5 hfd
          repeat' ((fail_if_success (with_reducible refine stop_append rfl ?_)); (fail_if_success (with_reducible refine stop_copy rfl ?_)); first | go_values | go_skip | go_guarded | go_step | go_upon | (simp only []; go_at_K))
          go_quiet (fail)
          repeat' ((fail_if_success (with_reducible refine stop_append rfl ?_)); (fail_if_success (with_reducible refine stop_copy rfl ?_)); first | go_values | go_skip | go_guarded | go_step | go_upon | (simp only []; go_at_K))
          exact ⟨⟨i + 1, by omega, by simp, UW.drewN _⟩, by simp [intOf]; omega⟩
      · obtain rfl : i = m := by omega
        have hlt' : ¬ ((i : Int) < (i : Int)) := by omega
        have h6 := h5.upd0 U
        have U6 := U5.trans U
        have ho6 := ho5.upd U (by simp)
        obtain ⟨od, hod⟩ := hfd
        obtain ⟨hodL, hodI⟩ := findO_some hod
        have hmd := h5.sd.may od hodL
        have hl3 : (dropO od.id L2).length + 1 = i := by rw [dropO_len1 h5.sd.ids ⟨od, hodL, rfl⟩]; exact H2.out
        have hfl : findO od.id (dropO od.id L2) = none := by rw [findO_drop]; simp
        have C := sideDrop wr g bo br s R L2 h6 (1 + (dm : Int)) hwd od hod
        have hwo : (Lit.int .i64 od.id).wf = true := by rw [hodI]; exact hwd
        have hpt : (od.id == 1 + (dm : Int)) = true := by rw [hodI]; exact beq_self_eq_true _
        obtain ⟨X, Y, e1, e2, e3⟩ := insO_parts s od (dropO od.id L2) (h5.sd.drop (id := od.id)).rising
        have HO := Lib.hid hodI
        clear ra rb U ho5 h5 hodL hod E hodI
        repeat' ((fail_if_success (with_reducible refine stop_append rfl ?_)); (fail_if_success (with_reducible refine stop_copy rfl ?_)); first | go_values | go_skip | go_guarded | go_step | go_upon | (simp only []; go_at_K))
        ((with_reducible refine C.mono ?_); rintro e w7 ⟨R7, rfl, h7, hu7⟩)
        have U7 := upd_own U6 hu7 hfr.out
        have hfr7 : ∀ k ∈ fpS g bo br R7, w.heap.size ≤ k := fun k hk => by
          rcases hu7.fresh k hk with h | h
          · exact hfr.out k h
          · exact Nat.le_trans U6.size h
        have hd7 : ∀ k ∈ ablk A5, k ∉ fpS g bo br R7 := fun k hk hm => by
          rcases hu7.fresh k hm with h | h
          · exact hd5 k hk h
          · have := ho6.lt k hk; omega
        have ho7 := ho6.upd hu7 hd5
        clear C h6 U6 ho6 hu7 hd5 hfr
        rw [Ord.val]
        obtain ⟨W8, e8⟩ : ∃ W, w7.alloc (.cells #[.int .i64 od.id, .int .i64 od.client, .int .i64 od.side, .int .i64 od.price, .int .i64 od.qty, .bool od.peg, .int .i64 od.off] 32) = W := ⟨_, rfl⟩
        have u8 : Upd [] [] w7 W8 := by rw [← e8]; exact (Upd.refl _ _).alloc _
        have B8 : Blk W8 w7.heap.size 32 #[.int .i64 od.id, .int .i64 od.client, .int .i64 od.side, .int .i64 od.price, .int .i64 od.qty, .bool od.peg, .int .i64 od.off] := by rw [← e8]; exact Blk.new _ _ _
        have hn8 : w7.heap.size ∉ fpS g bo br R7 := fun hm => by have := h7.lt _ hm; omega
        obtain ⟨n8, hn8'⟩ : ∃ n, w7.heap.size = n := ⟨_, rfl⟩
        rw [hn8'] at B8 hn8
        have h8 := h7.upd0 u8
        have U8 := U7.trans u8
        have ho8 := ho7.upd u8 (by simp)
        clear h7 U7 ho7 u8
        repeat' ((fail_if_success (with_reducible refine stop_append rfl ?_)); (fail_if_success (with_reducible refine stop_copy rfl ?_)); first | go_values | go_skip | go_guarded | go_step | go_upon | (simp only []; go_at_K))
        ((with_reducible refine (sideList W8 g bo br s R7 _ h8).mono ?_); rintro e w9 ⟨A9, c9, rfl, ho9, hu9⟩)
        have h9 := h8.upd0 hu9
        have hu9' : Upd [] [] W8 w9 := hu9.gives (by simp)
        have U9 := U8.trans hu9'
        have hp9 := ho8.upd hu9' (by simp)
        have B9 := B8.upd hu9' (by simp)
        have hd9 : ∀ k ∈ ablk A9, k ∉ fpS g bo br R7 := fun k hk hm => by
          rcases hu9.fresh k hk with h | h
          · cases h
          · have := h8.lt k hm; omega
        clear h8 U8 ho8 B8 hu9 hu9'
        obtain ⟨⟨p0, p1, p2, p3, p4, p5, p6⟩, -⟩ := B9.c7
        have C : ∀ hh : SideS w9 g s bo br R7 (dropO od.id L2), Calls Try.prog 14 #[.pointer (some ⟨g, 0, none⟩), .agg #[.int .i64 od.id, .int .i64 od.client, .int .i64 od.side, .int .i64 od.price, .int .i64 od.qty, .bool od.peg, .int .i64 od.off]] w9 (Put20 w9 g bo br s R7 (dropO od.id L2) od) := fun hh => sidePut w9 g bo br s R7 (dropO od.id L2) hh od hmd hfl hwo (by omega)
        repeat' ((fail_if_success (with_reducible refine stop_append rfl ?_)); (fail_if_success (with_reducible refine stop_copy rfl ?_)); first | go_values | go_skip | go_guarded | go_step | go_upon | (simp only []; go_at_K))
        ((with_reducible refine (C h9).mono ?_); rintro e w10 ⟨R10, rfl, h10, hu10⟩)
        have U10 := upd_own U9 hu10 hfr7
        have hp10 := hp9.upd hu10 hd7
        have hq10 := ho9.upd hu10 hd9
        have B10 := B9.upd hu10 hn8
        clear C h9 U9 hp9 ho9 B9 hu10 hd7 hd9 hn8 hfr7 p0 p1 p2 p3 p4 p5 p6
        repeat' ((fail_if_success (with_reducible refine stop_append rfl ?_)); (fail_if_success (with_reducible refine stop_copy rfl ?_)); first | go_values | go_skip | go_guarded | go_step | go_upon | (simp only []; go_at_K))
        ((with_reducible refine (sideList w10 g bo br s R10 _ h10).mono ?_); rintro e w11 ⟨A11, c11, rfl, ho11, hu11⟩)
        have hu11' : Upd [] [] w10 w11 := hu11.gives (by simp)
        have U11 := U10.trans hu11'
        have hp11 := hp10.upd hu11' (by simp)
        have hq11 := hq10.upd hu11' (by simp)
        have B11 := B10.upd hu11' (by simp)
        clear U10 hp10 hq10 B10 hu11 hu11' h10
        have hl4 : (insO s od (dropO od.id L2)).length = i := by rw [insO_len, hl3]
        rw [hl4] at ho11 ⊢
        have hfp : ∀ (j : Nat) (hj : j < L2.length), ¬ L2[j].id = od.id → (dropO od.id L2)[((L2.take j).filter fun o => !decide (o.id = od.id)).length]? = some L2[j] := fun j hj h => filter_pos _ L2 hj (by simpa using h)
        have hfs : ∀ (j : Nat) (hj : j < L2.length), _ := fun j hj => filter_step (fun o : Ord => !decide (o.id = od.id)) L2 hj
        rw [e1] at ho11 hl4
        obtain ⟨k3, hk3⟩ : ∃ k, (dropO od.id L2).length = k := ⟨_, rfl⟩
        rw [hk3] at hq11 hl3 ⊢
        have hki : (k3 : Int) = (i : Int) - 1 := by omega
        have rn : RdS Ord.cells 7 w11 A5 i L2 := ⟨H2.out.symm, hp11.rd⟩
        have rl : RdS Ord.cells 7 w11 A9 k3 (dropO od.id L2) := ⟨hk3.symm, hq11.rd⟩
        have rg : RdS Ord.cells 7 w11 A11 i (X ++ od :: Y) := ⟨hl4.symm, ho11.rd⟩
        have HKI := Lib.hid hki
        have hgE : ∀ (h : X.length < (X ++ od :: Y).length), (X ++ od :: Y)[X.length] = od := fun h => by simp
        have hgY : ∀ (j : Nat) (hj : j < (X ++ od :: Y).length), X.length < j → (X ++ od :: Y)[j].price ≠ od.price := fun j hj hlt => by
          have h1 : (X ++ od :: Y)[j]? = some ((X ++ od :: Y)[j]) := List.getElem?_eq_getElem hj
          rw [List.getElem?_append_right (by omega)] at h1
          obtain ⟨k, hk⟩ : ∃ k, j - X.length = k + 1 := ⟨j - X.length - 1, by omega⟩
          rw [hk, List.getElem?_cons_succ] at h1
          exact e3 _ (List.mem_of_getElem? h1)
        have he0 : X.length < i := by rw [← hl4]; simp
        clear hp11 hq11 ho11 e1 e2 e3 hmd hfl
        generalize X ++ od :: Y = L4 at *
        generalize X.length = e0 at *
        have H4 := Lib.hid hl4
        have H3 := Lib.hid hk3
        have H3' := Lib.hid hl3
        clear hl4 hl3
        have E := neSelfOrd
        repeat' ((fail_if_success (with_reducible refine stop_append rfl ?_)); (fail_if_success (with_reducible refine stop_copy rfl ?_)); first | go_values | go_skip | go_guarded | go_step | go_upon | (simp only []; go_at_K))
        clear hki
        go_loopw [24, 25, 26] (fun v24 v25 v26 wr' => ∃ (j : Nat) (la : Int), j ≤ i ∧ v26 = .int .i64 (j : Int) ∧ v25 = .int .i64 (((L2.take j).filter (fun o => !decide (o.id = od.id))).length : Int) ∧ v24 = .int .i64 la ∧ (e0 < j → la = (e0 : Int)) ∧ Upd [] [] w11 wr')
          (fun _ _ v26 _ => i - (intOf v26).toNat)
        case atStart => exact ⟨0, -1, by omega, rfl, by simp, rfl, by omega, Upd.refl _ _⟩
        case round =>
          obtain ⟨j, la, hj, rfl, rfl, rfl, hl, U'⟩ := hrel
          obtain ⟨kk, hkk⟩ : ∃ k, ((L2.take j).filter (fun o => !decide (o.id = od.id))).length = k := ⟨_, rfl⟩
          rw [hkk]
          by_cases hjl : j < i
          · have hlt'' : (j : Int) < (i : Int) := by omega
            have hj2 : j < L2.length := by rw [H2.out]; exact hjl
            have hj4 : j < L4.length := by rw [H4.out]; exact hjl
            have hw1 : IntKind.i64.wrap ((j : Int) + 1) = (j : Int) + 1 := by rw [IntKind.wrap_i64]; omega
            have k3i := H3'.out
            obtain ⟨⟨p0, p1, p2, p3, p4, p5, p6⟩, -⟩ := (B11.upd U' (by simp)).c7
            obtain ⟨ad1, rfl, n0, n1, n2, n3, n4, n5, n6⟩ := ord_at (show RdS Ord.cells 7 wr A5 i L2 from ⟨rn.len, rn.rd.upd U' (by simp)⟩) hj2
            obtain ⟨ad2, rfl, g0, g1, g2, g3, g4, g5, g6⟩ := ord_at (show RdS Ord.cells 7 wr A11 i L4 from ⟨rg.len, rg.rd.upd U' (by simp)⟩) hj4
            by_cases hi : L2[j].id = od.id
            · by_cases hp : L4[j].price = od.price
              · have hla : e0 < j + 1 → ((j : Int)) = (e0 : Int) := fun h => by
                  by_cases h' : e0 < j
                  · exact absurd hp (hgY j hj4 h')
                  · omega
                have hpb : (L4[j].price == od.price) = true := by rw [hp]; exact beq_self_eq_true _
                have hib : (L2[j].id == 1 + (dm : Int)) = true := by rw [hi, HO.out]; exact beq_self_eq_true _
                have hib' : (L2[j].id != 1 + (dm : Int)) = false := by unfold bne; rw [hib]; rfl
                have HST : Hid (((L2.take (j + 1)).filter fun o => !decide (o.id = od.id)).length = kk) := Lib.hid (by rw [hfs j hj2, hkk]; simp [hi])
                clear rn rl rg B11 hfp hfs hgE hgY hl hp hi hkk
                generalize L2[j] = x at *
                generalize L4[j] = y at *
                repeat' ((fail_if_success (with_reducible refine stop_append rfl ?_)); (fail_if_success (with_reducible refine stop_copy rfl ?_)); first | go_values | go_skip | go_guarded | go_step | go_upon | (simp only []; go_at_K))
                go_quiet (fail)
                repeat' ((fail_if_success (with_reducible refine stop_append rfl ?_)); (fail_if_success (with_reducible refine stop_copy rfl ?_)); first | go_values | go_skip | go_guarded | go_step | go_upon | (simp only []; go_at_K))
                exact ⟨⟨j + 1, (j : Int), by omega, by simp, by rw [HST.out], rfl, hla, U'.drewN _⟩, by simp [intOf]; omega⟩
              · have hla : e0 < j + 1 → la = (e0 : Int) := fun h => by
                  by_cases h' : e0 < j
                  · exact hl h'
                  · obtain rfl : e0 = j := by omega
                    exact absurd (congrArg Ord.price (hgE hj4)) hp
                have hpb : (L4[j].price == od.price) = false := beq_false_of_ne hp
                have hib : (L2[j].id == 1 + (dm : Int)) = true := by rw [hi, HO.out]; exact beq_self_eq_true _
                have hib' : (L2[j].id != 1 + (dm : Int)) = false := by unfold bne; rw [hib]; rfl
                have HST : Hid (((L2.take (j + 1)).filter fun o => !decide (o.id = od.id)).length = kk) := Lib.hid (by rw [hfs j hj2, hkk]; simp [hi])
                clear rn rl rg B11 hfp hfs hgE hgY hl hp hi hkk
                generalize L2[j] = x at *
                generalize L4[j] = y at *
                repeat' ((fail_if_success (with_reducible refine stop_append rfl ?_)); (fail_if_success (with_reducible refine stop_copy rfl ?_)); first | go_values | go_skip | go_guarded | go_step | go_upon | (simp only []; go_at_K))
                go_quiet (fail)
                repeat' ((fail_if_success (with_reducible refine stop_append rfl ?_)); (fail_if_success (with_reducible refine stop_copy rfl ?_)); first | go_values | go_skip | go_guarded | go_step | go_upon | (simp only []; go_at_K))
                exact ⟨⟨j + 1, la, by omega, by simp, by rw [HST.out], rfl, hla, U'.drewN _⟩, by simp [intOf]; omega⟩
            · by_cases hp : L4[j].price = od.price
              · have hla : e0 < j + 1 → ((j : Int)) = (e0 : Int) := fun h => by
                  by_cases h' : e0 < j
                  · exact absurd hp (hgY j hj4 h')
                  · omega
                have hpb : (L4[j].price == od.price) = true := by rw [hp]; exact beq_self_eq_true _
                have hib : (L2[j].id == 1 + (dm : Int)) = false := by rw [← HO.out]; exact beq_false_of_ne hi
                have hib' : (L2[j].id != 1 + (dm : Int)) = true := by unfold bne; rw [hib]; rfl
                have HST : Hid (((L2.take (j + 1)).filter fun o => !decide (o.id = od.id)).length = kk + 1) := Lib.hid (by rw [hfs j hj2, hkk]; simp [hi])
                have hf := hfp j hj2 hi
                rw [hkk] at hf
                obtain ⟨hkl, hke⟩ := List.getElem?_eq_some_iff.1 hf
                have hkl' : (kk : Int) < (k3 : Int) := by rw [hk3] at hkl; omega
                have hwk : IntKind.i64.wrap ((kk : Int) + 1) = (kk : Int) + 1 := by rw [IntKind.wrap_i64]; omega
                obtain ⟨ad3, rfl, l0, l1, l2, l3, l4, l5, l6⟩ := ord_at (show RdS Ord.cells 7 wr A9 k3 (dropO od.id L2) from ⟨rl.len, rl.rd.upd U' (by simp)⟩) hkl
                rw [hke] at l0 l1 l2 l3 l4 l5 l6
                clear hf hkl hke
                clear rn rl rg B11 hfp hfs hgE hgY hl hp hi hkk
                generalize L2[j] = x at *
                generalize L4[j] = y at *
                repeat' ((fail_if_success (with_reducible refine stop_append rfl ?_)); (fail_if_success (with_reducible refine stop_copy rfl ?_)); first | go_values | go_skip | go_guarded | go_step | go_upon | (simp only []; go_at_K))
                go_quiet (fail)
                repeat' ((fail_if_success (with_reducible refine stop_append rfl ?_)); (fail_if_success (with_reducible refine stop_copy rfl ?_)); first | go_values | go_skip | go_guarded | go_step | go_upon | (simp only []; go_at_K))
                go_quiet (fail)
                repeat' ((fail_if_success (with_reducible refine stop_append rfl ?_)); (fail_if_success (with_reducible refine stop_copy rfl ?_)); first | go_values | go_skip | go_guarded | go_step | go_upon | (simp only []; go_at_K))
                exact ⟨⟨j + 1, (j : Int), by omega, by simp, by rw [HST.out]; push_cast; rfl, rfl, hla, U'.drewN _⟩, by simp [intOf]; omega⟩
              · have hla : e0 < j + 1 → la = (e0 : Int) := fun h => by
                  by_cases h' : e0 < j
                  · exact hl h'
                  · obtain rfl : e0 = j := by omega
                    exact absurd (congrArg Ord.price (hgE hj4)) hp
                have hpb : (L4[j].price == od.price) = false := beq_false_of_ne hp
                have hib : (L2[j].id == 1 + (dm : Int)) = false := by rw [← HO.out]; exact beq_false_of_ne hi
                have hib' : (L2[j].id != 1 + (dm : Int)) = true := by unfold bne; rw [hib]; rfl
                have HST : Hid (((L2.take (j + 1)).filter fun o => !decide (o.id = od.id)).length = kk + 1) := Lib.hid (by rw [hfs j hj2, hkk]; simp [hi])
                have hf := hfp j hj2 hi
                rw [hkk] at hf
                obtain ⟨hkl, hke⟩ := List.getElem?_eq_some_iff.1 hf
                have hkl' : (kk : Int) < (k3 : Int) := by rw [hk3] at hkl; omega
                have hwk : IntKind.i64.wrap ((kk : Int) + 1) = (kk : Int) + 1 := by rw [IntKind.wrap_i64]; omega
                obtain ⟨ad3, rfl, l0, l1, l2, l3, l4, l5, l6⟩ := ord_at (show RdS Ord.cells 7 wr A9 k3 (dropO od.id L2) from ⟨rl.len, rl.rd.upd U' (by simp)⟩) hkl
                rw [hke] at l0 l1 l2 l3 l4 l5 l6
                clear hf hkl hke
                clear rn rl rg B11 hfp hfs hgE hgY hl hp hi hkk
                generalize L2[j] = x at *
                generalize L4[j] = y at *
                repeat' ((fail_if_success (with_reducible refine stop_append rfl ?_)); (fail_if_success (with_reducible refine stop_copy rfl ?_)); first | go_values | go_skip | go_guarded | go_step | go_upon | (simp only []; go_at_K))
                go_quiet (fail)
                repeat' ((fail_if_success (with_reducible refine stop_append rfl ?_)); (fail_if_success (with_reducible refine stop_copy rfl ?_)); first | go_values | go_skip | go_guarded | go_step | go_upon | (simp only []; go_at_K))
                go_quiet (fail)
                repeat' ((fail_if_success (with_reducible refine stop_append rfl ?_)); (fail_if_success (with_reducible refine stop_copy rfl ?_)); first | go_values | go_skip | go_guarded | go_step | go_upon | (simp only []; go_at_K))
                exact ⟨⟨j + 1, la, by omega, by simp, by rw [HST.out]; push_cast; rfl, rfl, hla, U'.drewN _⟩, by simp [intOf]; omega⟩
          · obtain rfl : j = i := by omega
            have hlt'' : ¬ ((j : Int) < (j : Int)) := by omega
            obtain rfl := hl he0
            have hj4 : e0 < L4.length := by rw [H4.out]; exact he0
            have heI : (e0 : Int) < (j : Int) := by omega
            have hpos : (0 : Int) ≤ (e0 : Int) := by omega
            have hposb : decide ((0 : Int) ≤ (e0 : Int)) = true := decide_eq_true hpos
            obtain ⟨⟨p0, p1, p2, p3, p4, p5, p6⟩, -⟩ := (B11.upd U' (by simp)).c7
            obtain ⟨ad2, rfl, g0, g1, g2, g3, g4, g5, g6⟩ := ord_at (show RdS Ord.cells 7 wr A11 j L4 from ⟨rg.len, rg.rd.upd U' (by simp)⟩) hj4
            rw [hgE hj4] at g0 g1 g2 g3 g4 g5 g6
            have E' := eqSelfOrd
            clear rn rl rg B11 hfp hfs hgE hgY hl hkk
            repeat' ((fail_if_success (with_reducible refine stop_append rfl ?_)); (fail_if_success (with_reducible refine stop_copy rfl ?_)); first | go_values | go_skip | go_guarded | go_step | go_upon | (simp only []; go_at_K))
            go_quiet (fail)
            repeat' ((fail_if_success (with_reducible refine stop_append rfl ?_)); (fail_if_success (with_reducible refine stop_copy rfl ?_)); first | go_values | go_skip | go_guarded | go_step | go_upon | (simp only []; go_at_K))
            go_ret
            exact ⟨rfl, U11.trans (U'.drewN _)⟩
end Go.Proofs.Ytdmmpcdilkcfjaa
