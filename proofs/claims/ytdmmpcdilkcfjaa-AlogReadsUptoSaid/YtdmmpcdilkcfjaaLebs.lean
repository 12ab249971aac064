/- Numbers as cells; beginnings of numbers laid down. -/
import Derived.Test.YtdmmpcdilkcfjaaBase
import Derived.Test.YtdmmpcdilkcfjaaPlainNums
namespace Go.Proofs.Ytdmmpcdilkcfjaa
open Go Go.RowKit Agio

def i64s (l : List Nat) : List Value := l.map fun n : Nat => .int .i64 (n : Int)
theorem i64s_get (l : List Nat) (k : Nat) (h : k < l.length) : (i64s l)[k]? = some (.int .i64 (l[k] : Int)) := by simp [i64s, h]
theorem lebs_take {l : List Nat} {i : Nat} (h : i < l.length) : (l.take (i + 1)).flatMap leb = (l.take i).flatMap leb ++ leb l[i] := by
  rw [List.take_succ_eq_append_getElem h, List.flatMap_append]; simp
theorem lebs_take_len {l : List Nat} (hU : ∀ n ∈ l, U64 n) (i : Nat) : ((l.take i).flatMap leb).length ≤ 10 * l.length := by
  have := lebs_len (l := l.take i) fun n hn => hU n (List.mem_of_mem_take hn)
  have h2 : (l.take i).length ≤ l.length := by simp; omega
  omega
theorem body_nums {b : List UInt8} {ms : List Int} (h : nums b ms 0 = none) : body b ms = none := by unfold body; rw [h]
theorem body_tk {b : List UInt8} {ms : List Int} {l : List Nat} {a : Nat} (h : nums b ms 0 = some (l, a)) {v : List UInt8} {k bad : Nat} (ht : tk 2048 (b.drop a) = (v, k, bad)) : body b ms = if bad = 0 ∧ a + k = b.length then some (l, v) else none := by
  unfold body; rw [h]; simp only [ht]
end Go.Proofs.Ytdmmpcdilkcfjaa
