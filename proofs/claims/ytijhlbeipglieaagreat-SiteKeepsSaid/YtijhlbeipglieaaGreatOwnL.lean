/- What turns blocks of one's own leaves the old ones. -/
import Derived.Test.YtijhlbeipglieaaGreatPkBase
namespace Go.Proofs.YtijhlbeipglieaaGreat
open Go.RowKit Agio
theorem _root_.Agio.Upd.ownL {a b X Y : List Nat} {w w1 w2 : World} (h : Upd a b w w1) (hX : ∀ x ∈ X, w.heap.size ≤ x) (k : Upd X Y w1 w2) : Upd a b w w2 :=
  ⟨k.os.trans h.os, k.tape.trans h.tape, k.output.trans h.output, Nat.le_trans h.size k.size, fun x hx hn => (k.block x (Nat.lt_of_lt_of_le hx h.size) (fun hm => by have := hX x hm; omega)).trans (h.block x hx hn), h.fresh⟩
end Go.Proofs.YtijhlbeipglieaaGreat
