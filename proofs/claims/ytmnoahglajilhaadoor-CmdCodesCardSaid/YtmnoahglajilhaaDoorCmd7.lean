/- What is encoded is decoded, and the other way; agiolaw05.awake. -/
import Derived.Test.YtmnoahglajilhaaDoorCmd6
import Derived.Deep.RegionWith
namespace Go.Proofs.YtmnoahglajilhaaDoor
open Go.RowKit Agio

theorem Cm.of_tail (c : Cm) (h0 : 0 ≤ c.k) (h1 : 0 ≤ c.cl) : Cm.of c.k.toNat c.cl.toNat c.tail = c := by
  obtain ⟨k, cl, sq, tm, s, a, p, q, i⟩ := c
  simp only [Cm.of, Cm.tail, Cm.mk.injEq]
  simp at h0 h1
  refine ⟨by omega, by omega, rfl, rfl, rfl, rfl, rfl, rfl, rfl⟩
theorem dec_back {c : Cm} (hm : c.may = true) (hI : c.I) : cmdDec c.bytes = .inr c := by
  obtain ⟨⟨hk0, hk1⟩, hc0, hc1⟩ := Cm.may_k hm
  have h := cmdRead_back (k := c.k.toNat) (cl := c.cl.toNat) (l := c.tail) [] (by omega) (by omega) rfl hI.tail
  rw [List.append_nil, if_pos rfl] at h
  have hb : c.bytes = leb c.k.toNat ++ leb c.cl.toNat ++ zigs c.tail := rfl
  have ho := Cm.of_tail c hk0 (by omega)
  unfold cmdDec
  rw [hb, h]
  simp only [ho, hm, if_true]
theorem dec_once {b : List UInt8} {c : Cm} (h : cmdDec b = .inr c) : c.may = true ∧ c.bytes = b ∧ c.I := by
  unfold cmdDec at h
  cases hr : cmdRead b with
  | inl e => rw [hr] at h; simp at h
  | inr r =>
    obtain ⟨k, cl, l⟩ := r
    rw [hr] at h
    simp only at h
    obtain ⟨hb, hl, hk, hc, hI⟩ := cmdRead_ok hr
    cases hm : (Cm.of k cl l).may
    · rw [hm] at h; simp at h
    · rw [hm] at h
      simp only [if_true, Sum.inr.injEq] at h
      subst h
      match l, hl with
      | [y0, y1, y2, y3, y4, y5, y6], _ =>
        have ht : (Cm.of k cl [y0, y1, y2, y3, y4, y5, y6]).tail = [y0, y1, y2, y3, y4, y5, y6] := rfl
        refine ⟨hm, ?_, ⟨?_, ?_, ?_⟩⟩
        · have : (Cm.of k cl [y0, y1, y2, y3, y4, y5, y6]).bytes = leb ((k : Int).toNat) ++ leb ((cl : Int).toNat) ++ zigs [y0, y1, y2, y3, y4, y5, y6] := rfl
          rw [this, Int.toNat_natCast, Int.toNat_natCast, hb]
        · show I64 (k : Int); unfold I64; omega
        · show I64 (cl : Int); unfold I64; omega
        · rw [ht]; exact hI
theorem bytes_len_le {c : Cm} (hm : c.may = true) (hI : c.I) : c.bytes.length ≤ 90 := by
  obtain ⟨⟨hk0, hk1⟩, hc0, hc1⟩ := Cm.may_k hm
  have h1 := leb_len (n := c.k.toNat) (U64.small (by omega))
  have h2 := leb_len (n := c.cl.toNat) (U64.small (by omega))
  have h3 := zigs_len (l := c.tail) hI.tail
  have h4 : c.tail.length = 7 := rfl
  unfold Cm.bytes
  simp only [List.length_append]
  omega

def cmA : Cm := ⟨9, 1, 1, 0, 0, 0, 0, 5, 0⟩
theorem cmA_may : cmA.may = true := by decide
theorem cmA_I : cmA.I := ⟨by unfold I64 cmA; simp, by unfold I64 cmA; simp, by unfold cmA Cm.tail I64; simp⟩
theorem cmA_bytes : cmA.bytes = [9, 1, 2, 0, 0, 0, 0, 10, 0] := by
  have e : cmA.bytes = leb 9 ++ leb 1 ++ (leb 2 ++ (leb 0 ++ (leb 0 ++ (leb 0 ++ (leb 0 ++ (leb 10 ++ (leb 0 ++ []))))))) := rfl
  rw [e]
  simp [leb_lt]
theorem dec_nine : cmdDec [9] = .inl (.cf (.wf 3 1)) := by
  have hu : uv [9] = (9, 1, 0) := by rw [uv, uvA_last (by decide) (by decide) (by decide)]; rfl
  have h0 : upt 1000 [9] = (9, 1, 0) := by unfold upt; rw [hu]; simp
  have h1 : upt 1000 (([9] : List UInt8).drop 1) = (0, 0, 3) := rfl
  unfold cmdDec
  rw [read_h1 h0 h1 (by decide)]
  rfl
theorem zero_may : Cm.zero.may = false := by decide

set_option maxRecDepth 100000 in
set_option maxHeartbeats 4000000 in
theorem awake05 (w : World) (hG : GoodG w) : Calls Tryd.prog 6 #[] w fun ev w' => ev = .returned (.bool true) ∧ Upd [] [] w w' := by
  have eq := eqCmd
  have E := cmdEncode_ok cmA cmA_may cmA_I
  have HD := Lib.hid (dec_back cmA_may cmA_I)
  rw [cmA_bytes] at E HD
  have hv : cmA.val = .agg #[.int .i64 9, .int .i64 1, .int .i64 1, .int .i64 0, .int .i64 0, .int .i64 0, .int .i64 0, .int .i64 5, .int .i64 0] := rfl
  rw [hv] at E
  go_enter Tryd.func6, Tryd.ntmps6
  repeat' ((fail_if_success (with_reducible refine stop_append rfl ?_)); (fail_if_success (with_reducible refine stop_copy rfl ?_)); first | go_values | go_skip | go_guarded | go_step | go_upon | (simp only []; go_at_K))
  refine (E _).mono ?_
  rintro ev w1 ⟨A1, k1, c1, rfl, ho1, hu1⟩
  have hB1 := (Blk.new w 23 #[.int .i64 9, .int .i64 1, .int .i64 1, .int .i64 0, .int .i64 0, .int .i64 0, .int .i64 0, .int .i64 5, .int .i64 0]).upd hu1 (by simp)
  have U1 : Upd [] [] w w1 := (((Upd.refl [] w).alloc _).trans hu1).gives (by simp)
  clear E hu1
  repeat' ((fail_if_success (with_reducible refine stop_append rfl ?_)); (fail_if_success (with_reducible refine stop_copy rfl ?_)); first | go_values | go_skip | go_guarded | go_step | go_upon | (simp only []; go_at_K))
  refine (cmdDecode w1 A1 k1 c1 _ ho1.rd (by decide)).mono ?_
  rintro ev w2 ⟨hT, hu2⟩
  rcases hT with ⟨er, h, -⟩ | ⟨c, h, rfl⟩
  · rw [HD.out] at h; cases h
  obtain rfl : cmA = c := by rw [HD.out] at h; exact Sum.inr.inj h
  rw [hv]
  clear h HD hv
  have hB2 := hB1.upd hu2 (by simp)
  have hT2 := Blk.new w2 23 #[.int .i64 9, .int .i64 1, .int .i64 1, .int .i64 0, .int .i64 0, .int .i64 0, .int .i64 0, .int .i64 5, .int .i64 0]
  have ho2 := ho1.rd.upd hu2 (by simp)
  have U2 := U1.trans hu2
  clear hB1 U1 ho1 hu2
  repeat' ((fail_if_success (with_reducible refine stop_append rfl ?_)); (fail_if_success (with_reducible refine stop_copy rfl ?_)); first | go_values | go_skip | go_guarded | go_step | go_upon | (simp only []; go_at_K))
  have hr3 : RdB ((w2.alloc (.cells #[.int .i64 9, .int .i64 1, .int .i64 1, .int .i64 0, .int .i64 0, .int .i64 0, .int .i64 0, .int .i64 5, .int .i64 0] 23)).alloc (.cells #[.int .u8 9] 5)) (some ⟨w2.heap.size + 1, 0, none⟩) 1 [9] := by
    have := Rd.new (w := w2.alloc (.cells #[.int .i64 9, .int .i64 1, .int .i64 1, .int .i64 0, .int .i64 0, .int .i64 0, .int .i64 0, .int .i64 5, .int .i64 0] 23)) 5 (0, 0) (size := 1) (n := 1) (cs := [.int .u8 9]) rfl
    rw [World.size_alloc] at this
    exact this
  refine (cmdDecode _ _ 1 1 _ hr3 (by decide)).mono ?_
  rintro ev w3 ⟨hT, hu3⟩
  rcases hT with ⟨er, h, rfl⟩ | ⟨c, h, -⟩
  · obtain rfl : Er.cf (.wf 3 1) = er := by rw [dec_nine] at h; exact Sum.inl.inj h
    have hz : Cm.zero.val = .agg #[.int .i64 0, .int .i64 0, .int .i64 0, .int .i64 0, .int .i64 0, .int .i64 0, .int .i64 0, .int .i64 0, .int .i64 0] := rfl
    rw [hz]
    clear h hz
    have hB3 := ((hB2.alloc _).alloc _).upd hu3 (by simp)
    have hT3 := (hT2.alloc _).upd hu3 (by simp)
    have ho3 := ((ho2.alloc _).alloc _).upd hu3 (by simp)
    have U3 := ((U2.alloc _).alloc _).trans hu3
    have hG3 := hG.upd U3 (by simp)
    have hl1 := hB3.lt
    have hl2 := hT3.lt
    clear hB2 hT2 ho2 U2 hu3 hr3
    have b0 := hB3.cell 0
    have b1 := hB3.cell 1
    have b2 := hB3.cell 2
    have b3 := hB3.cell 3
    have b4 := hB3.cell 4
    have b5 := hB3.cell 5
    have b6 := hB3.cell 6
    have b7 := hB3.cell 7
    have b8 := hB3.cell 8
    have t0 := hT3.cell 0
    have t1 := hT3.cell 1
    have t2 := hT3.cell 2
    have t3 := hT3.cell 3
    have t4 := hT3.cell 4
    have t5 := hT3.cell 5
    have t6 := hT3.cell 6
    have t7 := hT3.cell 7
    have t8 := hT3.cell 8
    simp at b0 b1 b2 b3 b4 b5 b6 b7 b8 t0 t1 t2 t3 t4 t5 t6 t7 t8
    have hst := strOf (ho3.alloc (.cells #[.int .i64 0, .int .i64 0, .int .i64 0, .int .i64 0, .int .i64 0, .int .i64 0, .int .i64 0, .int .i64 0, .int .i64 0] 23)) c1
    repeat' ((fail_if_success (with_reducible refine stop_append rfl ?_)); (fail_if_success (with_reducible refine stop_copy rfl ?_)); first | go_values | go_skip | go_guarded | go_step | go_upon | (simp only []; go_at_K))
    clear b0 b1 b2 b3 b4 b5 b6 b7 b8 t0 t1 t2 t3 t4 t5 t6 t7 t8 hst eq
    refine (codeEr (.cf (.wf 3 1)) _ (hG3.alloc _)).mono ?_
    rintro ev w4 ⟨rfl, hu4⟩
    have U4 := (U3.alloc _).trans hu4
    have hG4 := hG.upd U4 (by simp)
    simp only [Er.code]
    repeat' ((fail_if_success (with_reducible refine stop_append rfl ?_)); (fail_if_success (with_reducible refine stop_copy rfl ?_)); first | go_values | go_skip | go_guarded | go_step | go_upon | (simp only []; go_at_K))
    refine (atEr (.cf (.wf 3 1)) w4 hG4).mono ?_
    rintro ev w5 ⟨rfl, hu5⟩
    simp only [Er.at_, Option.getD]
    have M := cmdMay Cm.zero w5
    have e1 : Cm.zero.err = 1 := by simp [Cm.err, zero_may]
    have hz : Cm.zero.val = .agg #[.int .i64 0, .int .i64 0, .int .i64 0, .int .i64 0, .int .i64 0, .int .i64 0, .int .i64 0, .int .i64 0, .int .i64 0] := rfl
    rw [e1, hz] at M
    clear e1 hz
    repeat' ((fail_if_success (with_reducible refine stop_append rfl ?_)); (fail_if_success (with_reducible refine stop_copy rfl ?_)); first | go_values | go_skip | go_guarded | go_step | go_upon | (simp only []; go_at_K))
    refine M.mono ?_
    rintro ev w6 ⟨rfl, hu6⟩
    repeat' ((fail_if_success (with_reducible refine stop_append rfl ?_)); (fail_if_success (with_reducible refine stop_copy rfl ?_)); first | go_values | go_skip | go_guarded | go_step | go_upon | (simp only []; go_at_K))
    go_ret
    exact ⟨rfl, (U4.trans hu5).trans hu6⟩
  · rw [dec_nine] at h; cases h
end Go.Proofs.YtmnoahglajilhaaDoor
