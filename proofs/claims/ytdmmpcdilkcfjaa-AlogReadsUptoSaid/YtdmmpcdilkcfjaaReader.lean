/- What is read: wire.From, (*wire.Reader).next, fault, upTo, Uint, Int, Small, Bytes, End, Left. -/
import Derived.Test.YtdmmpcdilkcfjaaWriter
import Derived.Test.YtdmmpcdilkcfjaaPlainRead
import Derived.Deep.QuietTactic
import Derived.BigQuiet
namespace Go.Proofs.Ytdmmpcdilkcfjaa
open Go.RowKit Agio

theorem ret_int {k : IntKind} {a b : Int} (h : a = b) : Ending.returned (.int k a) = .returned (.int k b) := by rw [h]

/-- A reader at block g, of the bytes b, at a place. -/
structure Rr (w : World) (g : Nat) (A : Option Addr) (k c : Nat) (b : List UInt8) (at_ : Nat) : Prop where
  blk : Blk w g 220 #[.slice A k c, .int .i64 (at_ : Int)]
  own : OwnB 5 w A k c b
  le : at_ ≤ b.length

/-- The error of a number at a place; none of 0. -/
def flt (bad at_ : Nat) : Value := if bad = 0 then .nilIface else .iface 232 (.agg #[.int .i64 (bad : Int), .int .i64 (at_ : Int)])
theorem flt_zero (a : Nat) : flt 0 a = .nilIface := rfl
theorem flt_pos {bad : Nat} (h : bad ≠ 0) (a : Nat) : flt bad a = .iface 232 (.agg #[.int .i64 (bad : Int), .int .i64 (a : Int)]) := if_neg h
section
variable {w w' : World} {g : Nat} {A : Option Addr} {k c : Nat} {b : List UInt8} {at_ : Nat}
theorem Rr.upd {p q : List Nat} (h : Rr w g A k c b at_) (hu : Upd p q w w') (hd : ∀ j ∈ g :: ablk A, j ∉ p) : Rr w' g A k c b at_ :=
  ⟨h.blk.upd hu (hd g (by simp)), h.own.upd hu fun j hj => hd j (by simp [hj]), h.le⟩
theorem Rr.ne (h : Rr w g A k c b at_) : g ∉ ablk A := h.own.own.ne h.blk (by decide)
theorem Rr.drewN (h : Rr w g A k c b at_) (n : Nat) : Rr (w.drewN n) g A k c b at_ := ⟨h.blk, ⟨h.own.len, h.own.own.drewN n⟩, h.le⟩
/-- The reader's place is put on. -/
theorem Rr.put (h : Rr w g A k c b at_) (a' : Nat) (ha : a' ≤ b.length) :
    Rr (w.setCell ⟨g, 1, none⟩ (.int .i64 (a' : Int))) g A k c b a' ∧ Upd [g] [g] w (w.setCell ⟨g, 1, none⟩ (.int .i64 (a' : Int))) := by
  have hu : Upd [g] [g] w (w.setCell ⟨g, 1, none⟩ (.int .i64 (a' : Int))) := (Upd.refl [g] w).setCell (.inl (by simp)) _
  refine ⟨⟨by simpa using h.blk.set_ 1 (.int .i64 (a' : Int)), h.own.upd hu (fun j hj => by simp; rintro rfl; exact h.ne hj), ha⟩, hu⟩
end

set_option maxRecDepth 100000 in
set_option maxHeartbeats 400000 in
theorem wireFrom (w : World) (B : Option Addr) (m d : Nat) (r : List UInt8) (hr : RdB w B m r) (hlen : r.length ≤ 140737488355328) :
    Calls Try.prog 119 #[.slice B m d] w fun e w' => ∃ g A k c, e = .returned (.pointer (some ⟨g, 0, none⟩)) ∧ Rr w' g A k c r 0 ∧ Upd [] (g :: ablk A) w w' := by
  go_enter Try.func119, Try.ntmps119
  repeat' ((fail_if_success (with_reducible refine stop_append rfl ?_)); (fail_if_success (with_reducible refine stop_copy rfl ?_)); first | go_values | go_skip | go_guarded | go_step | go_upon | (simp only []; go_at_K))
  refine (bytesClone w B m d r hr hlen).mono ?_
  rintro e w1 ⟨A1, k1, c1, rfl, ho, hu⟩
  repeat' ((fail_if_success (with_reducible refine stop_append rfl ?_)); (fail_if_success (with_reducible refine stop_copy rfl ?_)); first | go_values | go_skip | go_guarded | go_step | go_upon | (simp only []; go_at_K))
  go_ret
  refine ⟨_, A1, k1, c1, rfl, ⟨by simpa using Blk.new _ _ _, ho.alloc _, Nat.zero_le _⟩, (hu.alloc _).gives ?_⟩
  intro j hj
  rcases List.mem_cons.1 hj with rfl | hj
  · exact .inr hu.size
  · exact hu.fresh j hj

set_option maxRecDepth 100000 in
set_option maxHeartbeats 400000 in
theorem readerLeft (w : World) (g : Nat) (A : Option Addr) (k c : Nat) (b : List UInt8) (a : Nat) (hr : Rr w g A k c b a) (hb : b.length ≤ 140737488355328) :
    Calls Try.prog 140 #[.pointer (some ⟨g, 0, none⟩)] w fun e w' => e = .returned (.int .i64 ((b.length - a : Nat) : Int)) ∧ ∃ n, w' = w.drewN n := by
  obtain rfl := hr.own.len
  have hc0 := hr.blk.cell 0
  have hc1 := hr.blk.cell 1
  have hle := hr.le
  simp at hc0 hc1
  go_enter Try.func140, Try.ntmps140
  repeat' ((fail_if_success (with_reducible refine stop_append rfl ?_)); (fail_if_success (with_reducible refine stop_copy rfl ?_)); first | go_values | go_skip | go_guarded | go_step | go_upon | (simp only []; go_at_K))
  go_quiet (fail)
  repeat' ((fail_if_success (with_reducible refine stop_append rfl ?_)); (fail_if_success (with_reducible refine stop_copy rfl ?_)); first | go_values | go_skip | go_guarded | go_step | go_upon | (simp only []; go_at_K))
  go_ret
  exact ⟨ret_int (by omega), nq, rfl⟩

set_option maxRecDepth 100000 in
set_option maxHeartbeats 400000 in
theorem readerFault (w : World) (g : Nat) (A : Option Addr) (k c : Nat) (b : List UInt8) (a : Nat) (no : Int) (hr : Rr w g A k c b a) :
    Calls Try.prog 139 #[.pointer (some ⟨g, 0, none⟩), .int .i64 no] w fun e w' => e = .returned (.iface 232 (.agg #[.int .i64 no, .int .i64 (a : Int)])) ∧ w = w' := by
  have hc1 := hr.blk.cell 1
  simp at hc1
  go_enter Try.func139, Try.ntmps139
  repeat' ((fail_if_success (with_reducible refine stop_append rfl ?_)); (fail_if_success (with_reducible refine stop_copy rfl ?_)); first | go_values | go_skip | go_guarded | go_step | go_upon | (simp only []; go_at_K))
  go_ret
  exact ⟨rfl, rfl⟩

set_option maxRecDepth 100000 in
set_option maxHeartbeats 1000000 in
theorem readerNext (w : World) (g : Nat) (A : Option Addr) (k c : Nat) (b : List UInt8) (a : Nat) (hr : Rr w g A k c b a) (hb : b.length ≤ 140737488355328) :
    Calls Try.prog 146 #[.pointer (some ⟨g, 0, none⟩)] w fun e w' => e = .returned (.tuple #[.int .u64 ((uv (b.drop a)).1 : Int), .int .i64 ((uv (b.drop a)).2.1 : Int), .int .i64 ((uv (b.drop a)).2.2 : Int)]) ∧ ∃ n, w' = w.drewN n := by
  obtain rfl := hr.own.len
  have hc0 := hr.blk.cell 0
  have hc1 := hr.blk.cell 1
  have hle := hr.le
  have hcap := hr.own.own.cap
  simp at hc0 hc1
  go_enter Try.func146, Try.ntmps146
  repeat' ((fail_if_success (with_reducible refine stop_append rfl ?_)); (fail_if_success (with_reducible refine stop_copy rfl ?_)); first | go_values | go_skip | go_guarded | go_step | go_upon | (simp only []; go_at_K))
  go_quiet (fail)
  repeat' ((fail_if_success (with_reducible refine stop_append rfl ?_)); (fail_if_success (with_reducible refine stop_copy rfl ?_)); first | go_values | go_skip | go_guarded | go_step | go_upon | (simp only []; go_at_K))
  have hrd : RdB (w.drewN nq) (if c = a then A else Option.map (fun x => x.add a) A) (b.length - a) (b.drop a) := by
    have := (hr.own.rd.drewN nq).cut (k := a) (cap := c) hle hcap.1
    simpa [RdB, b8s, List.map_drop] using this
  generalize (if c = a then A else Option.map (fun x => x.add a) A) = A' at *
  have hll : (b.drop a).length ≤ 140737488355328 := by simp; omega
  obtain ⟨l, hl⟩ : ∃ l, l = b.drop a := ⟨_, rfl⟩
  rw [← hl] at hrd hll
  have HL := Lib.hid hl; clear hl
  generalize b.length - a = n at *
  obtain rfl := hrd.len
  clear hb hle hcap hr hc0 hc1
  go_loop [5, 20] (fun v5 v20 => ∃ i acc : Nat, i ≤ l.length ∧ v20 = .int .i64 (i : Int) ∧ v5 = .int .u64 (acc : Int) ∧ acc < 128 ^ i ∧ i ≤ 9 ∧ uvA i acc (l.drop i) = uv l)
    (fun _ v20 => l.length - (intOf v20).toNat)
  case atStart => exact ⟨0, 0, Nat.zero_le _, rfl, rfl, by omega, by omega, rfl⟩
  case round =>
    obtain ⟨i, acc, hi, rfl, rfl, hacc, hi9, huv⟩ := hrel
    have HU := Lib.hid huv; clear huv
    by_cases hlt : i < l.length
    · obtain ⟨ad, u, rfl, hx, hcell⟩ := Rd.at_ hrd hlt
      rw [b8s_get l i hlt] at hx
      obtain rfl := Option.some.inj hx
      have HD := Lib.hid (List.drop_eq_getElem_cons hlt)
      have hcn : l[i].toNat < 256 := l[i].toNat_lt
      clear hx
      generalize hce : l[i].toNat = cn at *
      have HC := Lib.hid hce; clear hce
      have h0 : ¬ cn = 0 → ((cn : Int) == 0) = false := by intro h; simp; omega
      by_cases h128 : 128 ≤ cn
      · by_cases h9 : i = 9
        · have h9' : ((i : Int) == 9) = true := by simp; omega
          have H9 := Lib.hid h9; clear h9
          have E : Hid (uv (b.drop a) = (0, 0, 2)) := by rw [← HL.out, ← HU.out, HD.out, uvA_nine H9.out (by rw [HC.out]; omega)]; rfl
          repeat' ((fail_if_success (with_reducible refine stop_append rfl ?_)); (fail_if_success (with_reducible refine stop_copy rfl ?_)); first | go_values | go_skip | go_guarded | go_step | go_upon | (simp only []; go_at_K))
          go_ret3
          exact ⟨by rw [E.out]; rfl, nq, rfl⟩
        · have h9' : ((i : Int) == 9) = false := by simp; omega
          repeat' ((fail_if_success (with_reducible refine stop_append rfl ?_)); (fail_if_success (with_reducible refine stop_copy rfl ?_)); first | go_values | go_skip | go_guarded | go_step | go_upon | (simp only []; go_at_K))
          rw [acc_byte hi9 hacc hcn (fun h => absurd h h9)]
          refine ⟨⟨i + 1, _, by omega, by simp, rfl, acc_lt hacc, by omega, ?_⟩, by simp [intOf]; omega⟩
          rw [← HU.out, HD.out, uvA_more (by rw [HC.out]; omega) (by rw [HC.out]; exact h128), HC.out]
      · have h128' : cn < 128 := by omega
        by_cases h9 : i = 9
        · have h9' : ((i : Int) == 9) = true := by simp; omega
          have hi0 : 0 < i := by omega
          have H9 := Lib.hid h9; clear h9
          by_cases h1 : 1 < cn
          · have E : Hid (uv (b.drop a) = (0, 0, 2)) := by rw [← HL.out, ← HU.out, HD.out, uvA_nine H9.out (by rw [HC.out]; omega)]; rfl
            repeat' ((fail_if_success (with_reducible refine stop_append rfl ?_)); (fail_if_success (with_reducible refine stop_copy rfl ?_)); first | go_values | go_skip | go_guarded | go_step | go_upon | (simp only []; go_at_K))
            go_ret3
            exact ⟨by rw [E.out]; rfl, nq, rfl⟩
          · by_cases hz : cn = 0
            · have hz' : ((cn : Int) == 0) = true := by simp; omega
              have E : Hid (uv (b.drop a) = (0, 0, 2)) := by rw [← HL.out, ← HU.out, HD.out, uvA_zero (by rw [HC.out]; omega) hi0]; rfl
              have HZ := Lib.hid hz; clear hz
              repeat' ((fail_if_success (with_reducible refine stop_append rfl ?_)); (fail_if_success (with_reducible refine stop_copy rfl ?_)); first | go_values | go_skip | go_guarded | go_step | go_upon | (simp only []; go_at_K))
              go_ret3
              exact ⟨by rw [E.out]; rfl, nq, rfl⟩
            · have hz' : ((cn : Int) == 0) = false := by simp; omega
              have E : Hid (uv (b.drop a) = (acc + cn % 128 * 128 ^ i, i + 1, 0)) := by rw [← HL.out, ← HU.out, HD.out, uvA_last (by rw [HC.out]; omega) (by rw [HC.out]; omega) (by rw [HC.out]; omega), HC.out]; rfl
              repeat' ((fail_if_success (with_reducible refine stop_append rfl ?_)); (fail_if_success (with_reducible refine stop_copy rfl ?_)); first | go_values | go_skip | go_guarded | go_step | go_upon | (simp only []; go_at_K))
              rw [acc_byte hi9 hacc hcn (fun _ => by omega)]
              go_ret3
              exact ⟨by rw [E.out]; rfl, nq, rfl⟩
        · have h9' : ((i : Int) == 9) = false := by simp; omega
          by_cases hz : cn = 0
          · have hz' : ((cn : Int) == 0) = true := by simp; omega
            by_cases hi0 : 0 < i
            · have E : Hid (uv (b.drop a) = (0, 0, 2)) := by rw [← HL.out, ← HU.out, HD.out, uvA_zero (by rw [HC.out]; omega) hi0]; rfl
              have HZ := Lib.hid hz; clear hz
              repeat' ((fail_if_success (with_reducible refine stop_append rfl ?_)); (fail_if_success (with_reducible refine stop_copy rfl ?_)); first | go_values | go_skip | go_guarded | go_step | go_upon | (simp only []; go_at_K))
              go_ret3
              exact ⟨by rw [E.out]; rfl, nq, rfl⟩
            · have E : Hid (uv (b.drop a) = (acc + cn % 128 * 128 ^ i, i + 1, 0)) := by rw [← HL.out, ← HU.out, HD.out, uvA_last (by rw [HC.out]; omega) (by rw [HC.out]; omega) (by rw [HC.out]; omega), HC.out]; rfl
              have HZ := Lib.hid hz; clear hz
              repeat' ((fail_if_success (with_reducible refine stop_append rfl ?_)); (fail_if_success (with_reducible refine stop_copy rfl ?_)); first | go_values | go_skip | go_guarded | go_step | go_upon | (simp only []; go_at_K))
              rw [acc_byte hi9 hacc hcn (fun h => absurd h h9)]
              go_ret3
              exact ⟨by rw [E.out]; rfl, nq, rfl⟩
          · have hz' : ((cn : Int) == 0) = false := by simp; omega
            have E : Hid (uv (b.drop a) = (acc + cn % 128 * 128 ^ i, i + 1, 0)) := by rw [← HL.out, ← HU.out, HD.out, uvA_last (by rw [HC.out]; omega) (by rw [HC.out]; omega) (by rw [HC.out]; omega), HC.out]; rfl
            repeat' ((fail_if_success (with_reducible refine stop_append rfl ?_)); (fail_if_success (with_reducible refine stop_copy rfl ?_)); first | go_values | go_skip | go_guarded | go_step | go_upon | (simp only []; go_at_K))
            rw [acc_byte hi9 hacc hcn (fun h => absurd h h9)]
            go_ret3
            exact ⟨by rw [E.out]; rfl, nq, rfl⟩
    · have E : Hid (uv (b.drop a) = (0, 0, 3)) := by rw [← HL.out, ← HU.out, List.drop_of_length_le (by omega)]; rfl
      repeat' ((fail_if_success (with_reducible refine stop_append rfl ?_)); (fail_if_success (with_reducible refine stop_copy rfl ?_)); first | go_values | go_skip | go_guarded | go_step | go_upon | (simp only []; go_at_K))
      go_ret3
      exact ⟨by rw [E.out]; rfl, nq, rfl⟩

end Go.Proofs.Ytdmmpcdilkcfjaa
