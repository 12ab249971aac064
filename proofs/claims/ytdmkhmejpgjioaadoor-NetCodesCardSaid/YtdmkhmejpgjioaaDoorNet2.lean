/- Messages: (agio/net).Encode. -/
import Derived.Test.YtdmkhmejpgjioaaDoorNet
import Derived.Test.YtdmkhmejpgjioaaDoorLebs
import Derived.StillTailTactics
import Derived.Deep.RegionWith
set_option linter.all false
namespace Go.Proofs.YtdmkhmejpgjioaaDoor
open Go.RowKit Agio

/-- The places of a message's numbers. -/
def nptrs (M S : Nat) : List Addr := [⟨M, 0, none⟩, ⟨M, 1, none⟩, ⟨M, 2, none⟩, ⟨M, 3, none⟩, ⟨M, 4, none⟩, ⟨M, 5, none⟩, ⟨M, 6, none⟩, ⟨M, 7, none⟩, ⟨S, 0, none⟩]
def ptrVs (l : List Addr) : List Value := l.map fun a => .pointer (some a)
theorem nptrs_len (M S : Nat) : (nptrs M S).length = 9 := rfl
theorem ptrVs_get (l : List Addr) (k : Nat) (h : k < l.length) : (ptrVs l)[k]? = some (.pointer (some l[k])) := by simp [ptrVs, h]
theorem nptrs_block {M S : Nat} {a : Addr} (h : a ∈ nptrs M S) : a.block = M ∨ a.block = S := by
  simp only [nptrs, List.mem_cons, List.not_mem_nil, or_false] at h
  rcases h with rfl | rfl | rfl | rfl | rfl | rfl | rfl | rfl | rfl <;> simp
theorem Wr.away {w : World} {g : Nat} {A : Option Addr} {k c : Nat} {l : List UInt8} (hw : Wr w g A k c l) {h : Nat} {t : TypeId} {cs : Array Value} (hB : Blk w h t cs) (h1 : t ≠ 69) (h2 : t ≠ 5) : h ∉ g :: ablk A := by
  intro hm
  rcases List.mem_cons.1 hm with rfl | hm
  · exact hB.ne_ hw.blk h1 rfl
  · exact hw.own.own.ne hB (Ne.symm h2) hm

set_option maxRecDepth 100000 in
set_option maxHeartbeats 1000000 in
/-- The closure that lays a number down. -/
theorem netEnc1 (p : Addr) (x : Nat) (hx : x ≤ 9223372036854775807) (w : World) (hp : w.cell? p = some (.int .i64 (x : Int))) (g : Nat) (A : Option Addr) (k c : Nat) (l : List UInt8) (hw : Wr w g A k c l) (hl : l.length ≤ 100000000) :
    Calls Tryd.prog 59 #[.pointer (some p), .pointer (some ⟨g, 0, none⟩)] w fun e w' => e = .returned (.bool true) ∧ ∃ A' k' c', Wr w' g A' k' c' (l ++ leb x) ∧ Upd (g :: ablk A) (g :: ablk A') w w' := by
  have hx0 : (0 : Int) ≤ (x : Int) := by omega
  have hx1 : (x : Int) ≤ 9223372036854775807 := by omega
  have hw64 : IntKind.u64.wrap (x : Int) = (x : Int) := by rw [IntKind.wrap_u64]; omega
  go_enter Tryd.func59, Tryd.ntmps59
  repeat' ((fail_if_success (with_reducible refine stop_append rfl ?_)); (fail_if_success (with_reducible refine stop_copy rfl ?_)); first | go_values | go_skip | go_guarded | go_step | go_upon | (simp only []; go_at_K))
  refine (writerUint (x : Int) w g A k c l (by omega) (by simpa using U64.small (by omega)) hw (by omega)).mono ?_
  rintro e w1 ⟨rfl, A1, k1, c1, hw1, hu1⟩
  rw [Int.toNat_natCast] at hw1
  repeat' ((fail_if_success (with_reducible refine stop_append rfl ?_)); (fail_if_success (with_reducible refine stop_copy rfl ?_)); first | go_values | go_skip | go_guarded | go_step | go_upon | (simp only []; go_at_K))
  go_ret
  exact ⟨rfl, A1, k1, c1, hw1, hu1⟩

set_option maxRecDepth 100000 in
set_option maxHeartbeats 2000000 in
theorem netThroughE (w : World) (M S g : Nat) (ns : List Nat) (hns : ns.length = 9) (hI : ∀ n ∈ ns, n ≤ 9223372036854775807)
    (hc : ∀ (j : Nat) (h : j < 9) (h2 : j < ns.length), w.cell? ((nptrs M S)[j]'h) = some (.int .i64 ((ns[j] : Nat) : Int))) (A : Option Addr) (k c : Nat) (l : List UInt8) (hw : Wr w g A k c l) (hl : l.length ≤ 1000000) (hM : M ∉ g :: ablk A) (hS : S ∉ g :: ablk A) (hMl : M < w.heap.size) (hSl : S < w.heap.size) :
    Calls Tryd.prog 58 #[.pointer (some ⟨M, 0, none⟩), .pointer (some ⟨S, 0, none⟩), .func (.func 59) #[] #[.pointer (some ⟨g, 0, none⟩)]] w
      fun e w' => e = .returned (.bool true) ∧ ∃ A' k' c', Wr w' g A' k' c' (l ++ ns.flatMap leb) ∧ Upd (g :: ablk A) (g :: ablk A') w w' := by
  have hU : ∀ n ∈ ns, U64 n := fun n hn => U64.small (by have := hI n hn; omega)
  have hlen : ∀ i, ((ns.take i).flatMap leb).length ≤ 90 := fun i => by
    have := lebs_len (l := ns.take i) fun n hn => hU n (List.mem_of_mem_take hn)
    have h2 : (ns.take i).length ≤ 9 := by rw [List.length_take]; omega
    omega
  have HNS := Lib.hid hns; clear hns
  have HC := Lib.hid hc; clear hc
  go_enter Tryd.func58, Tryd.ntmps58
  repeat' ((fail_if_success (with_reducible refine stop_append rfl ?_)); (fail_if_success (with_reducible refine stop_copy rfl ?_)); first | go_values | go_skip | go_guarded | go_step | go_upon | (simp only []; go_at_K))
  go_still_tail 29, (by kernel_rfl)
  change wpList _ _ _ _ _ w.drew
  repeat' ((fail_if_success (with_reducible refine stop_append rfl ?_)); (fail_if_success (with_reducible refine stop_copy rfl ?_)); first | go_values | go_skip | go_guarded | go_step | go_upon | (simp only []; go_at_K))
  have hP : Blk (w.alloc (.cells (ptrVs (nptrs M S)).toArray 118)).drew w.heap.size 118 (ptrVs (nptrs M S)).toArray := Blk.new _ _ _
  have hw1 : Wr (w.alloc (.cells (ptrVs (nptrs M S)).toArray 118)).drew g A k c l := ⟨hw.blk.alloc _, (hw.own.alloc _).drew⟩
  have U1 : Upd (g :: ablk A) (g :: ablk A) w (w.alloc (.cells (ptrVs (nptrs M S)).toArray 118)).drew := ((Upd.refl _ _).alloc _).drew
  go_loopw [42] (fun v42 wr => ∃ (i : Nat) (A2 : Option Addr) (k2 c2 : Nat), i ≤ 9 ∧ v42 = .int .i64 (i : Int) ∧ Wr wr g A2 k2 c2 (l ++ (ns.take i).flatMap leb) ∧ Blk wr w.heap.size 118 (ptrVs (nptrs M S)).toArray ∧ Upd (g :: ablk A) (g :: ablk A2) w wr)
    (fun v42 _ => 9 - (intOf v42).toNat)
  case atStart => exact ⟨0, A, k, c, by omega, rfl, by rw [List.take_zero, List.flatMap_nil, List.append_nil]; exact hw1, hP, U1⟩
  case round =>
    obtain ⟨i, A2, k2, c2, hi, rfl, hw2, hP2, hu⟩ := hrel
    clear hP hw1 U1
    have hli := hlen i
    by_cases hlt : i < 9
    · have hin : i < ns.length := by rw [HNS.out]; exact hlt
      have hc := HC.out i hlt hin
      have hpm : (nptrs M S)[i]'hlt ∈ nptrs M S := List.getElem_mem hlt
      have hpb := nptrs_block hpm
      have hpc : wr.cell? ⟨w.heap.size, i, none⟩ = some (.pointer (some ((nptrs M S)[i]'hlt))) := by
        rw [hP2.cell]; simpa using ptrVs_get (nptrs M S) i hlt
      have hx := hI ns[i] (List.getElem_mem hin)
      have HS := Lib.hid (lebs_take hin)
      generalize (nptrs M S)[i]'hlt = p at *
      generalize ns[i] = x at *
      have hcw := hu.cell hc (by rcases hpb with h | h <;> rw [h]; exact hM; exact hS)
      clear hc hpm hpb
      repeat' ((fail_if_success (with_reducible refine stop_append rfl ?_)); (fail_if_success (with_reducible refine stop_copy rfl ?_)); first | go_values | go_skip | go_guarded | go_step | go_upon | (simp only []; go_at_K))
      ((with_reducible refine (netEnc1 p x hx wr hcw g A2 k2 c2 _ hw2 (by simp only [List.length_append]; omega)).mono ?_); rintro e w3 ⟨rfl, A3, k3, c3, hw3, hu3⟩)
      have hP3 := hP2.upd hu3 (hw2.away hP2 (by decide) (by decide))
      rw [List.append_assoc, ← HS.out] at hw3
      repeat' ((fail_if_success (with_reducible refine stop_append rfl ?_)); (fail_if_success (with_reducible refine stop_copy rfl ?_)); first | go_values | go_skip | go_guarded | go_step | go_upon | (simp only []; go_at_K))
      exact ⟨⟨i + 1, A3, k3, c3, by omega, rfl, hw3, hP3, hu.trans hu3⟩, by simp [intOf]; omega⟩
    · obtain rfl : i = 9 := by omega
      rw [List.take_of_length_le (by rw [HNS.out]; omega)] at hw2
      repeat' ((fail_if_success (with_reducible refine stop_append rfl ?_)); (fail_if_success (with_reducible refine stop_copy rfl ?_)); first | go_values | go_skip | go_guarded | go_step | go_upon | (simp only []; go_at_K))
      go_ret
      exact ⟨rfl, A2, k2, c2, hw2, hu⟩
end Go.Proofs.YtdmkhmejpgjioaaDoor
