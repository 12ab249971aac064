/- Merged: Crc, Frame2, Frame3, Frame4. -/
import Derived.Test.YtijhlbeipglieaaPkWire
import Derived.Test.YtijhlbeipglieaaPkPlain
import Derived.Test.YtijhlbeipglieaaPkBase
import Derived.Laws.Cover3
import Derived.Laws.StructEq
import Derived.Deep.RegionWith
/- The sum of bytes: (agio/crc).More, Sum; agioref01.Step, More, Sum. -/
namespace Go.Proofs.Ytijhlbeipglieaa
open Go.RowKit Agio

set_option maxRecDepth 100000 in
set_option maxHeartbeats 1000000 in
theorem crcAdd (c : UInt8) (m : Nat) (hm : U32 m) (w : World) (g : Nat) (hb : Blk w g 121 #[.int .u32 (m : Int)]) :
    Calls Try.prog 85 #[.int .u8 (c.toNat : Int), .pointer (some ⟨g, 0, none⟩)] w fun e w' => e = .returned (.tuple #[]) ∧ Blk w' g 121 #[.int .u32 ((crcB m c : Nat) : Int)] ∧ Upd [g] [g] w w' := by
  have hc := hb.cell 0
  have hf := hb.frozen 0
  simp at hc
  go_enter Try.func85, Try.ntmps85
  repeat' ((fail_if_success (with_reducible refine stop_append rfl ?_)); (fail_if_success (with_reducible refine stop_copy rfl ?_)); first | go_values | go_skip | go_guarded | go_step | go_upon | (simp only []; go_at_K))
  go_loopw [8] (fun v8 wr => ∃ k : Nat, k ≤ 8 ∧ v8 = .int .i64 (k : Int) ∧ Blk wr g 121 #[.int .u32 ((bitN k (m ^^^ c.toNat) : Nat) : Int)] ∧ Upd [g] [g] w wr) (fun v8 _ => 8 - (intOf v8).toNat)
  case atStart =>
    refine ⟨0, by omega, rfl, ?_, (Upd.refl _ _).setCell (.inl (by simp)) _⟩
    rw [bits_byte hm]
    exact hb.set_ 0 _
  case round =>
    obtain ⟨k, hk, rfl, hbk, hu⟩ := hrel
    have hU := bitN_U32 (hm.xor (U32.byte c)) k
    have HN : Hid (bitN (k + 1) (m ^^^ c.toNat) = bit1 (bitN k (m ^^^ c.toNat))) := rfl
    have H8 : Hid (k = 8 → bitN k (m ^^^ c.toNat) = crcB m c) := fun h => by subst h; rfl
    generalize bitN k (m ^^^ c.toNat) = x at *
    clear hc
    have hc := hbk.cell 0
    have hf := hbk.frozen 0
    simp at hc
    by_cases hlt : k < 8
    · by_cases hodd : x % 2 = 1
      · have ho := bits_odd hU hodd
        repeat' ((fail_if_success (with_reducible refine stop_append rfl ?_)); (fail_if_success (with_reducible refine stop_copy rfl ?_)); first | go_values | go_skip | go_guarded | go_step | go_upon | (simp only []; go_at_K))
        refine ⟨⟨k + 1, by omega, rfl, ?_, (hu.setCell (.inl (by simp)) _).setCell (.inl (by simp)) _⟩, by simp [intOf]; omega⟩
        rw [HN.out, bits_pol hU hodd]
        exact (hbk.set_ 0 _).set_ 0 _
      · have ho := bits_even hU hodd
        repeat' ((fail_if_success (with_reducible refine stop_append rfl ?_)); (fail_if_success (with_reducible refine stop_copy rfl ?_)); first | go_values | go_skip | go_guarded | go_step | go_upon | (simp only []; go_at_K))
        refine ⟨⟨k + 1, by omega, rfl, ?_, hu.setCell (.inl (by simp)) _⟩, by simp [intOf]; omega⟩
        rw [HN.out, bits_half hodd]
        exact hbk.set_ 0 _
    · obtain rfl : k = 8 := by omega
      have E : Hid (x = crcB m c) := H8.out rfl
      repeat' ((fail_if_success (with_reducible refine stop_append rfl ?_)); (fail_if_success (with_reducible refine stop_copy rfl ?_)); first | go_values | go_skip | go_guarded | go_step | go_upon | (simp only []; go_at_K))
      go_end0
      exact ⟨rfl, by rw [← E.out]; exact hbk, hu⟩


set_option maxRecDepth 100000 in
set_option maxHeartbeats 1000000 in
theorem crcMore (s : Nat) (hs : U32 s) (w : World) (A : Option Addr) (n c : Nat) (l : List UInt8) (hr : RdB w A n l) (hl : l.length ≤ 140737488355328) :
    Calls Try.prog 74 #[.int .u32 (s : Int), .slice A n c] w fun e w' => e = .returned (.int .u32 ((more s l : Nat) : Int)) ∧ Upd [] [] w w' := by
  obtain rfl := hr.len
  have hlt := hr.lt
  go_enter Try.func74, Try.ntmps74
  repeat' ((fail_if_success (with_reducible refine stop_append rfl ?_)); (fail_if_success (with_reducible refine stop_copy rfl ?_)); first | go_values | go_skip | go_guarded | go_step | go_upon | (simp only []; go_at_K))
  go_loopw [14] (fun v14 wr => ∃ k : Nat, k ≤ l.length ∧ v14 = .int .i64 (k : Int) ∧ Blk wr w.heap.size 121 #[.int .u32 ((crcW (s ^^^ 4294967295) (l.take k) : Nat) : Int)] ∧ Upd [] [] w wr) (fun v14 _ => l.length - (intOf v14).toNat)
  case atStart =>
    refine ⟨0, by omega, rfl, ?_, (Upd.refl _ _).alloc _⟩
    rw [bits_compl hs]
    exact Blk.new _ _ _
  case round =>
    obtain ⟨k, hk, rfl, hbk, hu⟩ := hrel
    have hU := crcW_U32 (hs.xor U32.all) (l.take k)
    have hc := hbk.cell 0
    have hf := hbk.frozen 0
    simp at hc
    have hrr := hr.upd hu (by simp)
    by_cases h1 : k < l.length
    · obtain ⟨ad, u, rfl, hx, hcell⟩ := Rd.at_ hrr (k := k) h1
      rw [b8s_get l k h1] at hx
      obtain rfl := Option.some.inj hx
      have HS := Lib.hid (crcW_take (w := s ^^^ 4294967295) h1)
      generalize crcW (s ^^^ 4294967295) (l.take k) = x at *
      clear hx
      repeat' ((fail_if_success (with_reducible refine stop_append rfl ?_)); (fail_if_success (with_reducible refine stop_copy rfl ?_)); first | go_values | go_skip | go_guarded | go_step | go_upon | (simp only []; go_at_K))
      refine (crcAdd l[k] x hU wr w.heap.size hbk).mono ?_
      rintro e w1 ⟨rfl, hb1, hu1⟩
      repeat' ((fail_if_success (with_reducible refine stop_append rfl ?_)); (fail_if_success (with_reducible refine stop_copy rfl ?_)); first | go_values | go_skip | go_guarded | go_step | go_upon | (simp only []; go_at_K))
      refine ⟨⟨k + 1, by omega, rfl, ?_, ?_⟩, by simp [intOf]; omega⟩
      · rw [HS.out]; exact hb1
      · exact ((hu.gives (b' := [w.heap.size]) (by simp)).trans hu1).gives (by simp)
    · obtain rfl : k = l.length := by omega
      rw [List.take_length] at hbk hU hc
      repeat' ((fail_if_success (with_reducible refine stop_append rfl ?_)); (fail_if_success (with_reducible refine stop_copy rfl ?_)); first | go_values | go_skip | go_guarded | go_step | go_upon | (simp only []; go_at_K))
      go_ret
      refine ⟨?_, hu⟩
      rw [bits_compl hU]; rfl

set_option maxRecDepth 100000 in
theorem crcSum (w : World) (A : Option Addr) (n c : Nat) (l : List UInt8) (hr : RdB w A n l) (hl : l.length ≤ 140737488355328) :
    Calls Try.prog 75 #[.slice A n c] w fun e w' => e = .returned (.int .u32 ((more 0 l : Nat) : Int)) ∧ Upd [] [] w w' := by
  go_enter Try.func75, Try.ntmps75
  repeat' ((fail_if_success (with_reducible refine stop_append rfl ?_)); (fail_if_success (with_reducible refine stop_copy rfl ?_)); first | go_values | go_skip | go_guarded | go_step | go_upon | (simp only []; go_at_K))
  refine (crcMore 0 U32.zero w A n c l hr hl).mono ?_
  rintro e w1 ⟨rfl, hu1⟩
  repeat' ((fail_if_success (with_reducible refine stop_append rfl ?_)); (fail_if_success (with_reducible refine stop_copy rfl ?_)); first | go_values | go_skip | go_guarded | go_step | go_upon | (simp only []; go_at_K))
  go_ret
  exact ⟨rfl, hu1⟩


end Go.Proofs.Ytijhlbeipglieaa

/- Frames: (agio/frame).four, sum, first, Put, Take, Scan. -/
namespace Go.Proofs.Ytijhlbeipglieaa
open Go.RowKit Agio

/-- Arrays of four bytes compared. -/
theorem neq4 (a0 a1 a2 a3 b0 b1 b2 b3 : Int) (w : World) : (binOp .neq 119 (.agg #[.int .u8 a0, .int .u8 a1, .int .u8 a2, .int .u8 a3]) (.agg #[.int .u8 b0, .int .u8 b1, .int .u8 b2, .int .u8 b3])).run Try.prog w
    = .ok (.bool (!((a0 == b0) && ((a1 == b1) && ((a2 == b2) && (a3 == b3)))))) w := by
  have p0 := fun (x0 x1 x2 x3 : Int) (w : World) => show (part 5 #[.int .u8 x0, .int .u8 x1, .int .u8 x2, .int .u8 x3] 0).run Try.prog w = .ok (.int .u8 x0) w by kernel_rfl
  have p1 := fun (x0 x1 x2 x3 : Int) (w : World) => show (part 5 #[.int .u8 x0, .int .u8 x1, .int .u8 x2, .int .u8 x3] 1).run Try.prog w = .ok (.int .u8 x1) w by kernel_rfl
  have p2 := fun (x0 x1 x2 x3 : Int) (w : World) => show (part 5 #[.int .u8 x0, .int .u8 x1, .int .u8 x2, .int .u8 x3] 2).run Try.prog w = .ok (.int .u8 x2) w by kernel_rfl
  have p3 := fun (x0 x1 x2 x3 : Int) (w : World) => show (part 5 #[.int .u8 x0, .int .u8 x1, .int .u8 x2, .int .u8 x3] 3).run Try.prog w = .ok (.int .u8 x3) w by kernel_rfl
  have e0 := fun (a b : Int) (w : World) => show (Op.equalIn 9999 5 (.int .u8 a) (.int .u8 b)).run Try.prog w = .ok (a == b) w by kernel_rfl
  have z := fun (w : World) => show (sizeOf 5).run Try.prog w = .ok 1 w by kernel_rfl
  rw [run_neq_struct]
  rw [show (10000 : Nat) = 9999 + 1 from rfl, Op.equalIn]
  simp only [Sem.run_bind, run_underlying Try.underlying119, Result.andThen_ok, z, Std.Legacy.Range.forIn_eq_forIn_range', Std.Legacy.Range.size, List.range', List.forIn_cons, List.forIn_nil, Nat.zero_mul, Nat.one_mul, Nat.reduceAdd, Nat.reduceMul, Nat.reduceSub, Nat.reduceDiv, Nat.add_zero, Nat.mul_one, Nat.zero_add, Nat.sub_zero, p0, p1, p2, p3, e0]
  cases a0 == b0
  · simp [Sem.run_pure]
  simp only [Bool.not_true, Bool.false_eq_true, if_false, Sem.run_pure, Sem.run_bind, Result.andThen_ok, p0, p1, p2, p3, e0]
  cases a1 == b1
  · simp [Sem.run_pure]
  simp only [Bool.not_true, Bool.false_eq_true, if_false, Sem.run_pure, Sem.run_bind, Result.andThen_ok, p0, p1, p2, p3, e0]
  cases a2 == b2
  · simp [Sem.run_pure]
  simp only [Bool.not_true, Bool.false_eq_true, if_false, Sem.run_pure, Sem.run_bind, Result.andThen_ok, p0, p1, p2, p3, e0]
  cases a3 == b3 <;> simp [Sem.run_pure]
/-- Four bytes as an array. -/
def arr4 (l : List UInt8) : Value := .agg (b8s l).toArray
theorem arr4_four (n : Nat) : arr4 (four n) = .agg #[.int .u8 ((n : Int) % 256), .int .u8 ((n : Int) / 256 % 256), .int .u8 ((n : Int) / 65536 % 256), .int .u8 ((n : Int) / 16777216 % 256)] := by
  have e : ∀ k : Nat, B8 (UInt8.ofNat k) = .int .u8 ((k : Int) % 256) := fun k => by
    unfold B8; congr 1
  simp only [arr4, four, b8s, List.map_cons, List.map_nil, e]
  congr 1

set_option maxRecDepth 100000 in
set_option maxHeartbeats 1000000 in
theorem frameFour (n : Nat) (hn : U32 n) (w : World) :
    Calls Try.prog 60 #[.int .u32 (n : Int)] w fun e w' => e = .returned (arr4 (four n)) ∧ Upd [] [] w w' := by
  rw [arr4_four]
  go_enter Try.func60, Try.ntmps60
  repeat' ((fail_if_success (with_reducible refine stop_append rfl ?_)); (fail_if_success (with_reducible refine stop_copy rfl ?_)); first | go_values | go_skip | go_guarded | go_step | go_upon | (simp only []; go_at_K))
  exact bodyPost_ret (v := .agg #[.int .u8 ((n : Int) % 256), .int .u8 ((n : Int) / 256 % 256), .int .u8 ((n : Int) / 65536 % 256), .int .u8 ((n : Int) / 16777216 % 256)]) (by simp [results, Try.results60, go_sem]) rfl ⟨rfl, (Upd.refl _ _).alloc _⟩

set_option maxRecDepth 100000 in
set_option maxHeartbeats 1000000 in
theorem frameSum (z0 z1 z2 z3 : UInt8) (w : World) (A : Option Addr) (n c : Nat) (b : List UInt8) (hr : RdB w A n b) (hb : b.length ≤ 140737488355328) :
    Calls Try.prog 61 #[arr4 [z0, z1, z2, z3], .slice A n c] w fun e w' => e = .returned (arr4 (four (fsum [z0, z1, z2, z3] b))) ∧ Upd [] [] w w' := by
  obtain ⟨s, hs⟩ : ∃ s, more 0 [z0, z1, z2, z3] = s := ⟨_, rfl⟩
  have hU : U32 s := by rw [← hs]; exact more_U32 U32.zero _
  have HF : Hid (fsum [z0, z1, z2, z3] b = more s b) := by unfold Hid fsum; rw [hs]
  have HS := Lib.hid hs; clear hs
  rw [show arr4 [z0, z1, z2, z3] = .agg #[B8 z0, B8 z1, B8 z2, B8 z3] from rfl]
  go_enter Try.func61, Try.ntmps61
  repeat' ((fail_if_success (with_reducible refine stop_append rfl ?_)); (fail_if_success (with_reducible refine stop_copy rfl ?_)); first | go_values | go_skip | go_guarded | go_step | go_upon | (simp only []; go_at_K))
  have hz : RdB ((w.alloc (.cells #[B8 z0, B8 z1, B8 z2, B8 z3] 119)).alloc (.cells #[.int .u8 0, .int .u8 0, .int .u8 0, .int .u8 0] 119)) (some ⟨w.heap.size, 0, none⟩) 4 [z0, z1, z2, z3] :=
    Rd.blk (cs := [B8 z0, B8 z1, B8 z2, B8 z3]) ((Blk.new _ _ _).alloc _) rfl
  refine (crcSum _ _ 4 4 _ hz (by simp)).mono ?_
  rintro e w1 ⟨rfl, hu1⟩
  rw [HS.out]
  have U1 : Upd [] [] w w1 := (((Upd.refl [] w).alloc _).alloc _).trans hu1
  have hT1 := (Blk.new (w.alloc (.cells #[B8 z0, B8 z1, B8 z2, B8 z3] 119)) 119 #[.int .u8 0, .int .u8 0, .int .u8 0, .int .u8 0]).upd hu1 (by simp)
  rw [World.size_alloc] at hT1
  clear hu1 hz
  repeat' ((fail_if_success (with_reducible refine stop_append rfl ?_)); (fail_if_success (with_reducible refine stop_copy rfl ?_)); first | go_values | go_skip | go_guarded | go_step | go_upon | (simp only []; go_at_K))
  refine (crcMore s hU w1 A n c b (hr.upd U1 (by simp)) hb).mono ?_
  rintro e w2 ⟨rfl, hu2⟩
  have hU2 := more_U32 hU b
  rw [← HF.out] at hU2 ⊢
  obtain ⟨x, hx⟩ : ∃ x, fsum [z0, z1, z2, z3] b = x := ⟨_, rfl⟩
  rw [hx] at hU2 ⊢
  have HX := Lib.hid hx; clear hx
  repeat' ((fail_if_success (with_reducible refine stop_append rfl ?_)); (fail_if_success (with_reducible refine stop_copy rfl ?_)); first | go_values | go_skip | go_guarded | go_step | go_upon | (simp only []; go_at_K))
  refine (frameFour x hU2 w2).mono ?_
  rintro e w3 ⟨rfl, hu3⟩
  have U3 := (U1.trans hu2).trans hu3
  have hT3 := hT1.upd (hu2.trans hu3) (by simp)
  have hlt := hT3.lt
  obtain ⟨⟨t0, t1, t2, t3⟩, f0, f1, f2, f3⟩ := hT3.c4
  rw [arr4_four]
  repeat' ((fail_if_success (with_reducible refine stop_append rfl ?_)); (fail_if_success (with_reducible refine stop_copy rfl ?_)); first | go_values | go_skip | go_guarded | go_step | go_upon | (simp only []; go_at_K))
  have N := rowSet [.int .u8 ((x : Int) % 256), .int .u8 ((x : Int) / 256 % 256), .int .u8 ((x : Int) / 65536 % 256), .int .u8 ((x : Int) / 16777216 % 256)] hT3 rfl U3 (.inr (by omega))
  simp only [setRow] at N
  generalize World.setCell _ ⟨w.heap.size + 1, 3, none⟩ _ = W4 at N ⊢
  obtain ⟨hN, hU4⟩ := N
  obtain ⟨⟨q0, q1, q2, q3⟩, -⟩ := hN.c4
  exact bodyPost_ret (v := .agg #[.int .u8 ((x : Int) % 256), .int .u8 ((x : Int) / 256 % 256), .int .u8 ((x : Int) / 65536 % 256), .int .u8 ((x : Int) / 16777216 % 256)]) (by simp [results, Try.results61, go_sem, q0, q1, q2, q3]) rfl ⟨by rw [HX.out, arr4_four], hU4⟩
end Go.Proofs.Ytijhlbeipglieaa

/- Frames: (agio/frame).first. -/
namespace Go.Proofs.Ytijhlbeipglieaa
open Go.RowKit Agio

end Go.Proofs.Ytijhlbeipglieaa

/- Frames: (agio/frame).Put, Take, Scan. -/
namespace Go.Proofs.Ytijhlbeipglieaa
open Go.RowKit Agio

set_option maxRecDepth 100000 in
set_option maxHeartbeats 1000000 in
theorem framePut (w : World) (A : Option Addr) (n c : Nat) (b : List UInt8) (hr : RdB w A n b) (hb : b.length ≤ 4096) :
    Calls Try.prog 40 #[.slice A n c] w fun e w' => ∃ A' k' c', e = .returned (.tuple #[.slice A' k' c', .int .i64 0]) ∧ OwnB 5 w' A' k' c' (put b) ∧ Upd [] (ablk A') w w' := by
  obtain rfl := hr.len
  have hU : U32 b.length := by unfold U32; omega
  obtain ⟨z0, z1, z2, z3, hz⟩ : ∃ z0 z1 z2 z3, four b.length = [z0, z1, z2, z3] := ⟨_, _, _, _, rfl⟩
  obtain ⟨s0, s1, s2, s3, hs⟩ : ∃ s0 s1 s2 s3, four (fsum [z0, z1, z2, z3] b) = [s0, s1, s2, s3] := ⟨_, _, _, _, rfl⟩
  have HP : Hid (put b = [z0, z1, z2, z3] ++ [s0, s1, s2, s3] ++ b) := by unfold Hid put; rw [hz, hs]
  have C1 := frameFour b.length hU
  rw [hz] at C1
  have C2 := fun w A n c h hb => frameSum z0 z1 z2 z3 w A n c b h hb
  rw [hs] at C2
  clear hz hs hU
  have e4 : ∀ a b c d : UInt8, arr4 [a, b, c, d] = .agg #[.int .u8 (a.toNat : Int), .int .u8 (b.toNat : Int), .int .u8 (c.toNat : Int), .int .u8 (d.toNat : Int)] := fun _ _ _ _ => rfl
  rw [e4] at C1 C2
  rw [e4] at C2
  clear e4
  go_enter Try.func40, Try.ntmps40
  repeat' ((fail_if_success (with_reducible refine stop_append rfl ?_)); (fail_if_success (with_reducible refine stop_copy rfl ?_)); first | go_values | go_skip | go_guarded | go_step | go_upon | (simp only []; go_at_K))
  refine (C1 w).mono ?_
  rintro e w1 ⟨rfl, hu1⟩
  repeat' ((fail_if_success (with_reducible refine stop_append rfl ?_)); (fail_if_success (with_reducible refine stop_copy rfl ?_)); first | go_values | go_skip | go_guarded | go_step | go_upon | (simp only []; go_at_K))
  refine (C2 _ A _ c ((hr.upd hu1 (by simp)).alloc _) (by omega)).mono ?_
  rintro e w2 ⟨rfl, hu2⟩
  have hZ := (Blk.new w1 119 #[.int .u8 (z0.toNat : Int), .int .u8 (z1.toNat : Int), .int .u8 (z2.toNat : Int), .int .u8 (z3.toNat : Int)]).upd hu2 (by simp)
  have U2 : Upd [] [] w w2 := (hu1.alloc _).trans hu2
  clear C1 C2 hu1 hu2
  have hw1 : 8 + (b.length : Int) ≤ 5000 := by omega
  repeat' ((fail_if_success at_make); (fail_if_success (with_reducible refine stop_append rfl ?_)); (fail_if_success (with_reducible refine stop_copy rfl ?_)); first | go_values | go_skip | go_guarded | go_step | go_upon | (simp only []; go_at_K))
  have hS := Blk.new w2 119 #[.int .u8 (s0.toNat : Int), .int .u8 (s1.toNat : Int), .int .u8 (s2.toNat : Int), .int .u8 (s3.toNat : Int)]
  have hZ := hZ.alloc (.cells #[.int .u8 (s0.toNat : Int), .int .u8 (s1.toNat : Int), .int .u8 (s2.toNat : Int), .int .u8 (s3.toNat : Int)] 119)
  have U3 := U2.alloc (.cells #[.int .u8 (s0.toNat : Int), .int .u8 (s1.toNat : Int), .int .u8 (s2.toNat : Int), .int .u8 (s3.toNat : Int)] 119)
  obtain ⟨i, hi, hz0, hsz, hby⟩ := info_parts infoU8
  refine wpList_make_own _ rfl _ _ 23 rfl 0 5 i (.int .u8 0) 1 Try.underlying23 hi hz0 hsz .i64 .i64 (8 + (b.length : Int)) (8 + b.length) rfl rfl (by omega) (by rw [hby]; omega) (by unfold maxLen; omega) (by omega) ?_
  intro w4 ho4 hg4
  clear hi hz0 hsz hby
  have hS4 := hS.grown hg4 (by simp)
  have hZ4 := hZ.grown hg4 (by simp)
  have U4 := U3.grown hg4 (fun k h => by cases h)
  rw [World.size_alloc] at ho4 ⊢
  have O4 : OwnB 5 w4 (some ⟨w2.heap.size + 1, 0, none⟩) 0 (8 + b.length) [] := ⟨rfl, ho4⟩
  have rZ4 : RdB w4 (some ⟨w1.heap.size, 0, none⟩) 4 [z0, z1, z2, z3] := Rd.blk (cs := b8s [z0, z1, z2, z3]) hZ4 rfl
  have rS4 : RdB w4 (some ⟨w2.heap.size, 0, none⟩) 4 [s0, s1, s2, s3] := Rd.blk (cs := b8s [s0, s1, s2, s3]) hS4 rfl
  have l1 := U2.size
  clear hS hZ U3 hg4 ho4 hS4 hZ4 U2
  repeat' ((fail_if_success (with_reducible refine stop_append rfl ?_)); (fail_if_success (with_reducible refine stop_copy rfl ?_)); first | go_values | go_skip | go_guarded | go_step | go_upon | (simp only []; go_at_K))
  refine wpList_appB rfl _ _ 23 rfl 5 Try.underlying23 infoU8 O4 rfl rZ4 rfl (by simp) ?_
  intro A5 k5 c5 w5 ho5 hu5
  have rS5 := rS4.upd hu5 (by simp [ablk])
  have U5 := (U4.gives (b' := ablk (some ⟨w2.heap.size + 1, 0, none⟩)) (by simp [ablk]; omega)).trans hu5
  clear O4 rZ4 rS4 U4 hu5
  repeat' ((fail_if_success (with_reducible refine stop_append rfl ?_)); (fail_if_success (with_reducible refine stop_copy rfl ?_)); first | go_values | go_skip | go_guarded | go_step | go_upon | (simp only []; go_at_K))
  refine wpList_appB rfl _ _ 23 rfl 5 Try.underlying23 infoU8 ho5 rfl rS5 rfl (by simp) ?_
  intro A6 k6 c6 w6 ho6 hu6
  have U6 := U5.trans hu6
  have hr6 := hr.upd U6 (by simp)
  clear ho5 rS5 U5 hu6
  repeat' ((fail_if_success (with_reducible refine stop_append rfl ?_)); (fail_if_success (with_reducible refine stop_copy rfl ?_)); first | go_values | go_skip | go_guarded | go_step | go_upon | (simp only []; go_at_K))
  refine wpList_appB rfl _ _ 23 rfl 5 Try.underlying23 infoU8 ho6 rfl hr6 rfl (by simp; omega) ?_
  intro A7 k7 c7 w7 ho7 hu7
  have U7 := U6.trans hu7
  rw [List.nil_append, ← HP.out] at ho7
  clear ho6 hr6 U6 hu7
  repeat' ((fail_if_success (with_reducible refine stop_append rfl ?_)); (fail_if_success (with_reducible refine stop_copy rfl ?_)); first | go_values | go_skip | go_guarded | go_step | go_upon | (simp only []; go_at_K))
  go_ret2
  exact ⟨A7, k7, c7, rfl, ho7, U7⟩

end Go.Proofs.Ytijhlbeipglieaa
