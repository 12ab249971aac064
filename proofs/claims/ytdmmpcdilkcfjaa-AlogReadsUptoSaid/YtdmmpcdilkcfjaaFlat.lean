/- Lists of lists of one length, flat. -/
import Derived.Test.YtdmmpcdilkcfjaaBase
namespace Go.Proofs.Ytdmmpcdilkcfjaa
open Go Go.RowKit Agio

theorem flat_len {α β : Type} {f : α → List β} {s : Nat} (hs : ∀ x, (f x).length = s) (l : List α) : (l.flatMap f).length = l.length * s := by
  induction l with
  | nil => simp
  | cons x l ih => simp [hs, ih, Nat.add_mul, Nat.add_comm]
theorem flat_get {α β : Type} {f : α → List β} {s : Nat} (hs : ∀ x, (f x).length = s) (l : List α) : ∀ (i j : Nat) (hi : i < l.length), j < s → (l.flatMap f)[i * s + j]? = (f l[i])[j]? := by
  induction l with
  | nil => intro i j hi; simp at hi
  | cons x l ih =>
    intro i j hi hj
    rw [List.flatMap_cons]
    cases i with
    | zero => rw [List.getElem?_append_left (by rw [hs]; omega)]; simp
    | succ i =>
      have e : (i + 1) * s + j = s + (i * s + j) := by rw [Nat.add_mul]; omega
      rw [e, List.getElem?_append_right (by rw [hs]; omega), hs, Nat.add_sub_cancel_left]
      simpa using ih i j (by simpa using hi) hj

theorem fld (a : Addr) (m j : Nat) (hj : 0 < j) : (⟨(a.add m).block, (a.add m).off + j, none⟩ : Addr) = a.add (m + j) := by
  rw [← add_of_add]
  generalize a.add m = x
  unfold Addr.add; rw [if_neg (by omega)]
end Go.Proofs.Ytdmmpcdilkcfjaa
