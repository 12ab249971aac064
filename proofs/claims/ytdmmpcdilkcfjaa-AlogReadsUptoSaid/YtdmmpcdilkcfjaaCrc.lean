/- The sum of bytes: (agio/crc).More, Sum; agioref01.Step, More, Sum. -/
import Derived.Test.YtdmmpcdilkcfjaaWriter
import Derived.Test.YtdmmpcdilkcfjaaPlainFrame
namespace Go.Proofs.Ytdmmpcdilkcfjaa
open Go.RowKit Agio

set_option maxRecDepth 100000 in
set_option maxHeartbeats 1000000 in
theorem crcAdd (c : UInt8) (m : Nat) (hm : U32 m) (w : World) (g : Nat) (hb : Blk w g 151 #[.int .u32 (m : Int)]) :
    Calls Try.prog 118 #[.int .u8 (c.toNat : Int), .pointer (some ⟨g, 0, none⟩)] w fun e w' => e = .returned (.tuple #[]) ∧ Blk w' g 151 #[.int .u32 ((crcB m c : Nat) : Int)] ∧ Upd [g] [g] w w' := by
  have hc := hb.cell 0
  have hf := hb.frozen 0
  simp at hc
  go_enter Try.func118, Try.ntmps118
  repeat' ((fail_if_success (with_reducible refine stop_append rfl ?_)); (fail_if_success (with_reducible refine stop_copy rfl ?_)); first | go_values | go_skip | go_guarded | go_step | go_upon | (simp only []; go_at_K))
  go_loopw [8] (fun v8 wr => ∃ k : Nat, k ≤ 8 ∧ v8 = .int .i64 (k : Int) ∧ Blk wr g 151 #[.int .u32 ((bitN k (m ^^^ c.toNat) : Nat) : Int)] ∧ Upd [g] [g] w wr) (fun v8 _ => 8 - (intOf v8).toNat)
  case atStart =>
    refine ⟨0, by omega, rfl, ?_, (Upd.refl _ _).setCell (.inl (by simp)) _⟩
    rw [bits_byte hm]
    exact hb.set_ 0 _
  case round =>
    obtain ⟨k, hk, rfl, hbk, hu⟩ := hrel
    have hU := bitN_U32 (hm.xor (U32.byte c)) k
    have HN : Hid (bitN (k + 1) (m ^^^ c.toNat) = bit1 (bitN k (m ^^^ c.toNat))) := rfl
    have H8 : Hid (k = 8 → bitN k (m ^^^ c.toNat) = crcB m c) := fun h => by subst h; rfl
    generalize bitN k (m ^^^ c.toNat) = x at *
    clear hc
    have hc := hbk.cell 0
    have hf := hbk.frozen 0
    simp at hc
    by_cases hlt : k < 8
    · by_cases hodd : x % 2 = 1
      · have ho := bits_odd hU hodd
        repeat' ((fail_if_success (with_reducible refine stop_append rfl ?_)); (fail_if_success (with_reducible refine stop_copy rfl ?_)); first | go_values | go_skip | go_guarded | go_step | go_upon | (simp only []; go_at_K))
        refine ⟨⟨k + 1, by omega, rfl, ?_, (hu.setCell (.inl (by simp)) _).setCell (.inl (by simp)) _⟩, by simp [intOf]; omega⟩
        rw [HN.out, bits_pol hU hodd]
        exact (hbk.set_ 0 _).set_ 0 _
      · have ho := bits_even hU hodd
        repeat' ((fail_if_success (with_reducible refine stop_append rfl ?_)); (fail_if_success (with_reducible refine stop_copy rfl ?_)); first | go_values | go_skip | go_guarded | go_step | go_upon | (simp only []; go_at_K))
        refine ⟨⟨k + 1, by omega, rfl, ?_, hu.setCell (.inl (by simp)) _⟩, by simp [intOf]; omega⟩
        rw [HN.out, bits_half hodd]
        exact hbk.set_ 0 _
    · obtain rfl : k = 8 := by omega
      have E : Hid (x = crcB m c) := H8.out rfl
      repeat' ((fail_if_success (with_reducible refine stop_append rfl ?_)); (fail_if_success (with_reducible refine stop_copy rfl ?_)); first | go_values | go_skip | go_guarded | go_step | go_upon | (simp only []; go_at_K))
      go_end0
      exact ⟨rfl, by rw [← E.out]; exact hbk, hu⟩

set_option maxRecDepth 100000 in
set_option maxHeartbeats 1000000 in
theorem refStep (c : UInt8) (m : Nat) (hm : U32 m) (w : World) :
    Calls Try.prog 100 #[.int .u32 (m : Int), .int .u8 (c.toNat : Int)] w fun e w' => e = .returned (.int .u32 ((crcB m c : Nat) : Int)) ∧ w = w' := by
  have hcb := c.toNat_lt
  go_enter Try.func100, Try.ntmps100
  repeat' ((fail_if_success (with_reducible refine stop_append rfl ?_)); (fail_if_success (with_reducible refine stop_copy rfl ?_)); first | go_values | go_skip | go_guarded | go_step | go_upon | (simp only []; go_at_K))
  go_loop [0, 5] (fun v0 v5 => ∃ k : Nat, k ≤ 8 ∧ v5 = .int .i64 (k : Int) ∧ v0 = .int .u32 ((bitN k (m ^^^ c.toNat) : Nat) : Int)) (fun _ v5 => 8 - (intOf v5).toNat)
  case atStart =>
    refine ⟨0, by omega, rfl, ?_⟩
    rw [bits_byte' hm]; rfl
  case round =>
    obtain ⟨k, hk, rfl, rfl⟩ := hrel
    have hU := bitN_U32 (hm.xor (U32.byte c)) k
    have HN : Hid (bitN (k + 1) (m ^^^ c.toNat) = bit1 (bitN k (m ^^^ c.toNat))) := rfl
    have H8 : Hid (k = 8 → bitN k (m ^^^ c.toNat) = crcB m c) := fun h => by subst h; rfl
    generalize bitN k (m ^^^ c.toNat) = x at *
    by_cases hlt : k < 8
    · by_cases hodd : x % 2 = 1
      · have ho : ((x : Int) % 2 == 1) = true := by rw [beq_iff_eq]; omega
        repeat' ((fail_if_success (with_reducible refine stop_append rfl ?_)); (fail_if_success (with_reducible refine stop_copy rfl ?_)); first | go_values | go_skip | go_guarded | go_step | go_upon | (simp only []; go_at_K))
        refine ⟨⟨k + 1, by omega, rfl, ?_⟩, by simp [intOf]; omega⟩
        rw [HN.out, bits_pol' hU hodd]
      · have ho : ((x : Int) % 2 == 1) = false := by rw [beq_eq_false_iff_ne]; omega
        repeat' ((fail_if_success (with_reducible refine stop_append rfl ?_)); (fail_if_success (with_reducible refine stop_copy rfl ?_)); first | go_values | go_skip | go_guarded | go_step | go_upon | (simp only []; go_at_K))
        refine ⟨⟨k + 1, by omega, rfl, ?_⟩, by simp [intOf]; omega⟩
        rw [HN.out, bits_half' hU hodd]
    · obtain rfl : k = 8 := by omega
      have E : Hid (x = crcB m c) := H8.out rfl
      repeat' ((fail_if_success (with_reducible refine stop_append rfl ?_)); (fail_if_success (with_reducible refine stop_copy rfl ?_)); first | go_values | go_skip | go_guarded | go_step | go_upon | (simp only []; go_at_K))
      go_ret
      exact ⟨by rw [E.out]; rfl, rfl⟩

set_option maxRecDepth 100000 in
set_option maxHeartbeats 1000000 in
theorem crcMore (s : Nat) (hs : U32 s) (w : World) (A : Option Addr) (n c : Nat) (l : List UInt8) (hr : RdB w A n l) (hl : l.length ≤ 140737488355328) :
    Calls Try.prog 98 #[.int .u32 (s : Int), .slice A n c] w fun e w' => e = .returned (.int .u32 ((more s l : Nat) : Int)) ∧ Upd [] [] w w' := by
  obtain rfl := hr.len
  have hlt := hr.lt
  go_enter Try.func98, Try.ntmps98
  repeat' ((fail_if_success (with_reducible refine stop_append rfl ?_)); (fail_if_success (with_reducible refine stop_copy rfl ?_)); first | go_values | go_skip | go_guarded | go_step | go_upon | (simp only []; go_at_K))
  go_loopw [14] (fun v14 wr => ∃ k : Nat, k ≤ l.length ∧ v14 = .int .i64 (k : Int) ∧ Blk wr w.heap.size 151 #[.int .u32 ((crcW (s ^^^ 4294967295) (l.take k) : Nat) : Int)] ∧ Upd [] [] w wr) (fun v14 _ => l.length - (intOf v14).toNat)
  case atStart =>
    refine ⟨0, by omega, rfl, ?_, (Upd.refl _ _).alloc _⟩
    rw [bits_compl hs]
    exact Blk.new _ _ _
  case round =>
    obtain ⟨k, hk, rfl, hbk, hu⟩ := hrel
    have hU := crcW_U32 (hs.xor U32.all) (l.take k)
    have hc := hbk.cell 0
    have hf := hbk.frozen 0
    simp at hc
    have hrr := hr.upd hu (by simp)
    by_cases h1 : k < l.length
    · obtain ⟨ad, u, rfl, hx, hcell⟩ := Rd.at_ hrr (k := k) h1
      rw [b8s_get l k h1] at hx
      obtain rfl := Option.some.inj hx
      have HS := Lib.hid (crcW_take (w := s ^^^ 4294967295) h1)
      generalize crcW (s ^^^ 4294967295) (l.take k) = x at *
      clear hx
      repeat' ((fail_if_success (with_reducible refine stop_append rfl ?_)); (fail_if_success (with_reducible refine stop_copy rfl ?_)); first | go_values | go_skip | go_guarded | go_step | go_upon | (simp only []; go_at_K))
      refine (crcAdd l[k] x hU wr w.heap.size hbk).mono ?_
      rintro e w1 ⟨rfl, hb1, hu1⟩
      repeat' ((fail_if_success (with_reducible refine stop_append rfl ?_)); (fail_if_success (with_reducible refine stop_copy rfl ?_)); first | go_values | go_skip | go_guarded | go_step | go_upon | (simp only []; go_at_K))
      refine ⟨⟨k + 1, by omega, rfl, ?_, ?_⟩, by simp [intOf]; omega⟩
      · rw [HS.out]; exact hb1
      · exact ((hu.gives (b' := [w.heap.size]) (by simp)).trans hu1).gives (by simp)
    · obtain rfl : k = l.length := by omega
      rw [List.take_length] at hbk hU hc
      repeat' ((fail_if_success (with_reducible refine stop_append rfl ?_)); (fail_if_success (with_reducible refine stop_copy rfl ?_)); first | go_values | go_skip | go_guarded | go_step | go_upon | (simp only []; go_at_K))
      go_ret
      refine ⟨?_, hu⟩
      rw [bits_compl hU]; rfl

set_option maxRecDepth 100000 in
theorem crcSum (w : World) (A : Option Addr) (n c : Nat) (l : List UInt8) (hr : RdB w A n l) (hl : l.length ≤ 140737488355328) :
    Calls Try.prog 99 #[.slice A n c] w fun e w' => e = .returned (.int .u32 ((more 0 l : Nat) : Int)) ∧ Upd [] [] w w' := by
  go_enter Try.func99, Try.ntmps99
  repeat' ((fail_if_success (with_reducible refine stop_append rfl ?_)); (fail_if_success (with_reducible refine stop_copy rfl ?_)); first | go_values | go_skip | go_guarded | go_step | go_upon | (simp only []; go_at_K))
  refine (crcMore 0 U32.zero w A n c l hr hl).mono ?_
  rintro e w1 ⟨rfl, hu1⟩
  repeat' ((fail_if_success (with_reducible refine stop_append rfl ?_)); (fail_if_success (with_reducible refine stop_copy rfl ?_)); first | go_values | go_skip | go_guarded | go_step | go_upon | (simp only []; go_at_K))
  go_ret
  exact ⟨rfl, hu1⟩

set_option maxRecDepth 100000 in
set_option maxHeartbeats 1000000 in
theorem refMore (s : Nat) (hs : U32 s) (w : World) (A : Option Addr) (n c : Nat) (l : List UInt8) (hr : RdB w A n l) (hl : l.length ≤ 140737488355328) :
    Calls Try.prog 81 #[.int .u32 (s : Int), .slice A n c] w fun e w' => e = .returned (.int .u32 ((more s l : Nat) : Int)) ∧ w = w' := by
  obtain rfl := hr.len
  go_enter Try.func81, Try.ntmps81
  repeat' ((fail_if_success (with_reducible refine stop_append rfl ?_)); (fail_if_success (with_reducible refine stop_copy rfl ?_)); first | go_values | go_skip | go_guarded | go_step | go_upon | (simp only []; go_at_K))
  go_loop [5, 6] (fun v5 v6 => ∃ k : Nat, k ≤ l.length ∧ v6 = .int .i64 (k : Int) ∧ v5 = .int .u32 ((crcW (s ^^^ 4294967295) (l.take k) : Nat) : Int)) (fun _ v6 => l.length - (intOf v6).toNat)
  case atStart =>
    refine ⟨0, by omega, rfl, ?_⟩
    rw [bits_all hs]; rfl
  case round =>
    obtain ⟨k, hk, rfl, rfl⟩ := hrel
    have hU := crcW_U32 (hs.xor U32.all) (l.take k)
    by_cases h1 : k < l.length
    · obtain ⟨ad, u, rfl, hx, hcell⟩ := Rd.at_ hr (k := k) h1
      rw [b8s_get l k h1] at hx
      obtain rfl := Option.some.inj hx
      have HS := Lib.hid (crcW_take (w := s ^^^ 4294967295) h1)
      generalize crcW (s ^^^ 4294967295) (l.take k) = x at *
      clear hx
      repeat' ((fail_if_success (with_reducible refine stop_append rfl ?_)); (fail_if_success (with_reducible refine stop_copy rfl ?_)); first | go_values | go_skip | go_guarded | go_step | go_upon | (simp only []; go_at_K))
      refine (refStep l[k] x hU w).mono ?_
      rintro e w1 ⟨rfl, rfl⟩
      repeat' ((fail_if_success (with_reducible refine stop_append rfl ?_)); (fail_if_success (with_reducible refine stop_copy rfl ?_)); first | go_values | go_skip | go_guarded | go_step | go_upon | (simp only []; go_at_K))
      refine ⟨⟨k + 1, by omega, rfl, ?_⟩, by simp [intOf]; omega⟩
      rw [HS.out]
    · obtain rfl : k = l.length := by omega
      rw [List.take_length] at hU ⊢
      repeat' ((fail_if_success (with_reducible refine stop_append rfl ?_)); (fail_if_success (with_reducible refine stop_copy rfl ?_)); first | go_values | go_skip | go_guarded | go_step | go_upon | (simp only []; go_at_K))
      go_ret
      refine ⟨?_, rfl⟩
      rw [bits_all hU]; rfl

set_option maxRecDepth 100000 in
theorem refSum (w : World) (A : Option Addr) (n c : Nat) (l : List UInt8) (hr : RdB w A n l) (hl : l.length ≤ 140737488355328) :
    Calls Try.prog 82 #[.slice A n c] w fun e w' => e = .returned (.int .u32 ((more 0 l : Nat) : Int)) ∧ w = w' := by
  go_enter Try.func82, Try.ntmps82
  repeat' ((fail_if_success (with_reducible refine stop_append rfl ?_)); (fail_if_success (with_reducible refine stop_copy rfl ?_)); first | go_values | go_skip | go_guarded | go_step | go_upon | (simp only []; go_at_K))
  refine (refMore 0 U32.zero w A n c l hr hl).mono ?_
  rintro e w1 ⟨rfl, rfl⟩
  repeat' ((fail_if_success (with_reducible refine stop_append rfl ?_)); (fail_if_success (with_reducible refine stop_copy rfl ?_)); first | go_values | go_skip | go_guarded | go_step | go_upon | (simp only []; go_at_K))
  go_ret
  exact ⟨rfl, rfl⟩
end Go.Proofs.Ytdmmpcdilkcfjaa
