/- agiolaw05.CmdCuts, walked. -/
import Derived.Test.YtchlceolccfdhaaDoorCmd8
import Derived.Test.YtchlceolccfdhaaDoorPlainCut
namespace Go.Proofs.YtchlceolccfdhaaDoor
open Go.RowKit Agio

theorem dec_cut {c : Cm} (hm : c.may = true) {j : Nat} (hj : j < c.bytes.length) : ∃ e, cmdDec (c.bytes.take j) = .inl (.cf (.wf 3 e)) := by
  obtain ⟨⟨hk0, hk1⟩, hc0, hc1⟩ := Cm.may_k hm
  obtain ⟨e, he⟩ := cmdRead_cut (k := c.k.toNat) (cl := c.cl.toNat) (l := c.tail) (j := j) (by omega) (by omega) rfl (Cm.I_of hm).tail hj
  refine ⟨(e : Int), ?_⟩
  unfold cmdDec
  rw [show c.bytes = leb c.k.toNat ++ leb c.cl.toNat ++ zigs c.tail from rfl, he]
  rfl
theorem dec_more {c : Cm} (hm : c.may = true) (x : UInt8) : ∃ e, cmdDec (c.bytes ++ [x]) = .inl (.cf (.wf 2 e)) := by
  obtain ⟨⟨hk0, hk1⟩, hc0, hc1⟩ := Cm.may_k hm
  have h := cmdRead_back (k := c.k.toNat) (cl := c.cl.toNat) (l := c.tail) [x] (by omega) (by omega) rfl (Cm.I_of hm).tail
  rw [if_neg (by simp)] at h
  refine ⟨(((leb c.k.toNat ++ leb c.cl.toNat ++ zigs c.tail).length : Nat) : Int), ?_⟩
  unfold cmdDec
  rw [show c.bytes = leb c.k.toNat ++ leb c.cl.toNat ++ zigs c.tail from rfl, h]
  rfl

set_option maxRecDepth 100000 in
set_option maxHeartbeats 4000000 in
theorem cmdCuts_any (w : World) (hG : GoodG w) (c : Cm) (x y : Int) (hx0 : 0 ≤ x) (hx1 : x ≤ 255) (hy0 : 0 ≤ y) (hy1 : y ≤ 255) :
    Calls Tryd.prog 12 #[c.val, .int .u8 x, .int .u8 y] w fun ev w' => ev = .returned (.bool true) ∧ Upd [] [] w w' := by
  cases hm : c.may
  · have E := cmdEncode_bad c hm
    clear hm
    rw [Cm.val_eq] at E ⊢
    unfold cmdErr at E
    go_enter Tryd.func12, Tryd.ntmps12
    repeat' ((fail_if_success (with_reducible refine stop_append rfl ?_)); (fail_if_success (with_reducible refine stop_copy rfl ?_)); first | go_values | go_skip | go_guarded | go_step | go_upon | (simp only []; go_at_K))
    refine (awake05 _ (hG.alloc _)).mono ?_
    rintro ev w1 ⟨rfl, hu1⟩
    have hB1 := (Blk.new w 68 #[.int .i64 c.k, .int .i64 c.cl, .int .i64 c.sq, .int .i64 c.tm, .int .i64 c.s, .int .i64 c.a, .int .i64 c.p, .int .i64 c.q, .int .i64 c.i]).upd hu1 (by simp)
    have U1 : Upd [] [] w w1 := ((Upd.refl [] w).alloc _).trans hu1
    have b0 := hB1.cell 0
    have b1 := hB1.cell 1
    have b2 := hB1.cell 2
    have b3 := hB1.cell 3
    have b4 := hB1.cell 4
    have b5 := hB1.cell 5
    have b6 := hB1.cell 6
    have b7 := hB1.cell 7
    have b8 := hB1.cell 8
    simp at b0 b1 b2 b3 b4 b5 b6 b7 b8
    clear hu1
    repeat' ((fail_if_success (with_reducible refine stop_append rfl ?_)); (fail_if_success (with_reducible refine stop_copy rfl ?_)); first | go_values | go_skip | go_guarded | go_step | go_upon | (simp only []; go_at_K))
    refine (E _).mono ?_
    rintro ev w2 ⟨rfl, hu2⟩
    repeat' ((fail_if_success (with_reducible refine stop_append rfl ?_)); (fail_if_success (with_reducible refine stop_copy rfl ?_)); first | go_values | go_skip | go_guarded | go_step | go_upon | (simp only []; go_at_K))
    go_ret
    exact ⟨rfl, U1.trans hu2⟩
  · have E := cmdEncode_ok c hm (Cm.I_of hm)
    have hl := bytes_len64 hm
    have hp : 0 < c.bytes.length := by have := leb_pos c.k.toNat; unfold Cm.bytes; simp only [List.length_append]; omega
    have HC := Lib.hid (fun j (hj : j < c.bytes.length) => dec_cut hm hj)
    have HM := Lib.hid (fun u => dec_more hm u)
    have hz : Cm.zero.val = .agg #[.int .i64 0, .int .i64 0, .int .i64 0, .int .i64 0, .int .i64 0, .int .i64 0, .int .i64 0, .int .i64 0, .int .i64 0] := rfl
    have HZ := Lib.hid hz; clear hz
    clear hm
    rw [Cm.val_eq] at E ⊢
    generalize c.bytes = b at *
    go_enter Tryd.func12, Tryd.ntmps12
    repeat' ((fail_if_success (with_reducible refine stop_append rfl ?_)); (fail_if_success (with_reducible refine stop_copy rfl ?_)); first | go_values | go_skip | go_guarded | go_step | go_upon | (simp only []; go_at_K))
    refine (awake05 _ (hG.alloc _)).mono ?_
    rintro ev w1 ⟨rfl, hu1⟩
    have hB1 := (Blk.new w 68 #[.int .i64 c.k, .int .i64 c.cl, .int .i64 c.sq, .int .i64 c.tm, .int .i64 c.s, .int .i64 c.a, .int .i64 c.p, .int .i64 c.q, .int .i64 c.i]).upd hu1 (by simp)
    have U1 : Upd [] [] w w1 := ((Upd.refl [] w).alloc _).trans hu1
    have b0 := hB1.cell 0
    have b1 := hB1.cell 1
    have b2 := hB1.cell 2
    have b3 := hB1.cell 3
    have b4 := hB1.cell 4
    have b5 := hB1.cell 5
    have b6 := hB1.cell 6
    have b7 := hB1.cell 7
    have b8 := hB1.cell 8
    simp at b0 b1 b2 b3 b4 b5 b6 b7 b8
    clear hu1
    repeat' ((fail_if_success (with_reducible refine stop_append rfl ?_)); (fail_if_success (with_reducible refine stop_copy rfl ?_)); first | go_values | go_skip | go_guarded | go_step | go_upon | (simp only []; go_at_K))
    refine (E _).mono ?_
    rintro ev w2 ⟨A2, k2, c2, rfl, ho2, hu2⟩
    have U2 : Upd [] [] w w2 := U1.trans (hu2.gives (by simp))
    have hcap := ho2.own.cap
    have hkl := ho2.len
    subst hkl
    have hmod0 : 0 ≤ x % (b.length : Int) := Int.emod_nonneg _ (by omega)
    have hmod1 : x % (b.length : Int) < (b.length : Int) := Int.emod_lt_of_pos _ (by omega)
    have hmod2 : x % (b.length : Int) ≤ (c2 : Int) := Int.le_trans (Int.le_of_lt hmod1) (by have := hcap.1; omega)
    have hne : ((b.length : Int) == 0) = false := beq_eq_false_iff_ne.2 (by omega)
    clear b0 b1 b2 b3 b4 b5 b6 b7 b8 hB1 U1 hu2 E hcap
    repeat' ((fail_if_success (with_reducible refine stop_append rfl ?_)); (fail_if_success (with_reducible refine stop_copy rfl ?_)); first | go_values | go_skip | go_guarded | go_step | go_upon | (simp only []; go_at_K))
    have hj : (x % (b.length : Int)).toNat < b.length := by omega
    generalize (x % (b.length : Int)).toNat = j at *
    have hrd : RdB w2 A2 j (b.take j) := by simpa [RdB, b8s, List.map_take] using Rd.take ho2.rd (k := j) (by omega)
    obtain ⟨e1, he1⟩ := HC.out j hj
    have HE1 := Lib.hid he1; clear he1 HC
    refine (cmdDecode w2 A2 j c2 _ hrd (by simp; omega)).mono ?_
    rintro ev w3 ⟨hT, hu3⟩
    rcases hT with ⟨er, h, rfl⟩ | ⟨c', h, -⟩
    · obtain rfl : Er.cf (.wf 3 e1) = er := by rw [HE1.out] at h; exact Sum.inl.inj h
      rw [HZ.out]
      clear h HE1 hrd
      have ho3 := ho2.rd.upd hu3 (by simp)
      have U3 := U2.trans hu3
      clear ho2 U2 hu3
      repeat' ((fail_if_success (with_reducible refine stop_append rfl ?_)); (fail_if_success (with_reducible refine stop_copy rfl ?_)); first | go_values | go_skip | go_guarded | go_step | go_upon | (simp only []; go_at_K))
      have hM := OwnB.made 5 (w3.alloc (.cells #[.int .i64 0, .int .i64 0, .int .i64 0, .int .i64 0, .int .i64 0, .int .i64 0, .int .i64 0, .int .i64 0, .int .i64 0] 68))
      rw [World.size_alloc] at hM
      refine wpList_appB rfl _ _ 24 rfl 5 Tryd.underlying24 infoU8 hM rfl ((ho3.alloc _).alloc _) rfl (by simp; omega) ?_
      intro A4 k4 c4 w4 ho4 hu4
      have U4 : Upd [] (ablk A4) w w4 := (((U3.alloc _).alloc _).gives (by simp [ablk]; have := U3.size; omega)).trans hu4
      rw [List.nil_append] at ho4
      clear U3 hu4 ho3
      repeat' ((fail_if_success (with_reducible refine stop_append rfl ?_)); (fail_if_success (with_reducible refine stop_copy rfl ?_)); first | go_values | go_skip | go_guarded | go_step | go_upon | (simp only []; go_at_K))
      refine wpList_pushB rfl _ _ 24 rfl 5 Tryd.underlying24 infoU8 ho4 rfl _ rfl _ rfl y.toNat (by omega) (by omega) (by omega) ?_
      intro A5 k5 c5 w5 ho5 hu5
      have U5 : Upd [] [] w w5 := (U4.trans hu5).gives (by simp)
      obtain ⟨e2, he2⟩ := HM.out (UInt8.ofNat y.toNat)
      have HE2 := Lib.hid he2; clear he2 HM ho4 U4 hu5
      repeat' ((fail_if_success (with_reducible refine stop_append rfl ?_)); (fail_if_success (with_reducible refine stop_copy rfl ?_)); first | go_values | go_skip | go_guarded | go_step | go_upon | (simp only []; go_at_K))
      refine (cmdDecode w5 A5 k5 c5 _ ho5.rd (by simp; omega)).mono ?_
      rintro ev w6 ⟨hT, hu6⟩
      rcases hT with ⟨er, h, rfl⟩ | ⟨c', h, -⟩
      · obtain rfl : Er.cf (.wf 2 e2) = er := by rw [HE2.out] at h; exact Sum.inl.inj h
        rw [HZ.out]
        clear h HE2 ho5
        have U6 := U5.trans hu6
        have hG6 := hG.upd U6 (by simp)
        clear U5 hu6
        repeat' ((fail_if_success (with_reducible refine stop_append rfl ?_)); (fail_if_success (with_reducible refine stop_copy rfl ?_)); first | go_values | go_skip | go_guarded | go_step | go_upon | (simp only []; go_at_K))
        refine (codeEr (.cf (.wf 3 e1)) _ (hG6.alloc _)).mono ?_
        rintro ev w7 ⟨rfl, hu7⟩
        have U7 := (U6.alloc _).trans hu7
        have hG7 := hG.upd U7 (by simp)
        simp only [Er.code]
        repeat' ((fail_if_success (with_reducible refine stop_append rfl ?_)); (fail_if_success (with_reducible refine stop_copy rfl ?_)); first | go_values | go_skip | go_guarded | go_step | go_upon | (simp only []; go_at_K))
        refine (codeEr (.cf (.wf 2 e2)) w7 hG7).mono ?_
        rintro ev w8 ⟨rfl, hu8⟩
        simp only [Er.code]
        repeat' ((fail_if_success (with_reducible refine stop_append rfl ?_)); (fail_if_success (with_reducible refine stop_copy rfl ?_)); first | go_values | go_skip | go_guarded | go_step | go_upon | (simp only []; go_at_K))
        go_ret
        exact ⟨rfl, U7.trans hu8⟩
      · rw [HE2.out] at h; cases h
    · rw [HE1.out] at h; cases h
end Go.Proofs.YtchlceolccfdhaaDoor
