/- Words for memory that all walks of this seat share: what a call may turn ('Upd'), a block known whole, slices that read as lists, bytes as cells. No program in sight. -/
import Derived.WalkKit
import Derived.WalkSpells
import Derived.WalkLawsBesides
import Derived.Deep.AppendLies
import Derived.Maps.AppendAt
import Derived.Deep.Draws
import Derived.Lib.Hide
namespace Agio
open Go Go.RowKit

/-- What a call may do to memory: only the blocks of fp (of those that were there) may have turned; what it hands back lies in fp or in new blocks. -/
structure Upd (fp fp' : List Nat) (w w' : World) : Prop where
  os : w'.os = w.os
  tape : w'.tape = w.tape
  output : w'.output = w.output
  size : w.heap.size ≤ w'.heap.size
  block : ∀ k, k < w.heap.size → k ∉ fp → w'.heap[k]? = w.heap[k]?
  fresh : ∀ k, k ∈ fp' → k ∈ fp ∨ w.heap.size ≤ k

theorem Upd.refl (fp : List Nat) (w : World) : Upd fp fp w w := ⟨rfl, rfl, rfl, Nat.le_refl _, fun _ _ _ => rfl, fun _ h => .inl h⟩

theorem Upd.trans {a b c : List Nat} {w w1 w2 : World} (h : Upd a b w w1) (k : Upd b c w1 w2) : Upd a c w w2 :=
  ⟨k.os.trans h.os, k.tape.trans h.tape, k.output.trans h.output, Nat.le_trans h.size k.size,
    fun i hi hn => by
      have hb : i ∉ b := fun hm => by rcases h.fresh i hm with h1 | h1; exact hn h1; omega
      exact (k.block i (Nat.lt_of_lt_of_le hi h.size) hb).trans (h.block i hi hn),
    fun i hi => by
      rcases k.fresh i hi with h1 | h1
      · exact h.fresh i h1
      · exact .inr (Nat.le_trans h.size h1)⟩

/-- Fewer blocks handed back, more that may turn. -/
theorem Upd.mono {a b a' b' : List Nat} {w w' : World} (h : Upd a b w w') (ha : ∀ k ∈ a, k ∈ a') (hb : ∀ k ∈ b', k ∈ b ∨ k ∈ a' ∨ w.heap.size ≤ k) : Upd a' b' w w' :=
  ⟨h.os, h.tape, h.output, h.size, fun i hi hn => h.block i hi fun hm => hn (ha _ hm), fun i hi => by
    rcases hb i hi with h1 | h1 | h1
    · rcases h.fresh i h1 with h2 | h2
      · exact .inl (ha _ h2)
      · exact .inr h2
    · exact .inl h1
    · exact .inr h1⟩

theorem Upd.drew {a b : List Nat} {w w' : World} (h : Upd a b w w') : Upd a b w w'.drew := ⟨h.os, h.tape, h.output, h.size, h.block, h.fresh⟩
theorem Upd.drewN {a b : List Nat} {w w' : World} (h : Upd a b w w') (n : Nat) : Upd a b w (w'.drewN n) := ⟨h.os, h.tape, h.output, h.size, h.block, h.fresh⟩
theorem Upd.alloc {a b : List Nat} {w w' : World} (h : Upd a b w w') (o : Obj) : Upd a b w (w'.alloc o) :=
  ⟨h.os, h.tape, h.output, Nat.le_trans h.size (by simp), fun i hi hn => (Below.heap_alloc w' o i (Nat.lt_of_lt_of_le hi h.size)).trans (h.block i hi hn), h.fresh⟩
theorem Upd.setCell {a b : List Nat} {w w' : World} (h : Upd a b w w') {p : Addr} (hp : p.block ∈ a ∨ w.heap.size ≤ p.block) (u : Value) : Upd a b w (w'.setCell p u) :=
  ⟨h.os, h.tape, h.output, by simpa [World.setCell] using h.size, fun i hi hn => (Below.heap_setCell w' p u i (by
    rintro rfl
    rcases hp with hp | hp
    · exact hn hp
    · omega)).trans (h.block i hi hn), h.fresh⟩
theorem Upd.grown {a b : List Nat} {w w' w'' : World} {row : Option Nat} (h : Upd a b w w') (hg : w'.grownBy w'' row) (hr : ∀ k, row = some k → k ∈ a ∨ w.heap.size ≤ k) : Upd a b w w'' :=
  ⟨hg.os.trans h.os, hg.tape.trans h.tape, hg.output.trans h.output, Nat.le_trans h.size hg.size, fun i hi hn => (hg.block i (Nat.lt_of_lt_of_le hi h.size) (fun e => by
    rcases hr i e.symm with h1 | h1
    · exact hn h1
    · omega)).trans (h.block i hi hn), h.fresh⟩
/-- What is handed back may be any blocks that are new. -/
theorem Upd.gives {a b b' : List Nat} {w w' : World} (h : Upd a b w w') (hb : ∀ k ∈ b', k ∈ a ∨ w.heap.size ≤ k) : Upd a b' w w' := ⟨h.os, h.tape, h.output, h.size, h.block, hb⟩
theorem Upd.below {a b : List Nat} {w w' : World} (h : Upd a b w w') {B : Nat} (hB : B ≤ w.heap.size) (ha : ∀ k ∈ a, B ≤ k) : Below B w w' :=
  ⟨h.os, h.tape, h.output, h.size, fun k hk => h.block k (by omega) fun hm => by have := ha k hm; omega⟩
theorem Upd.of_below {w w' : World} (h : Below w.heap.size w w') (fp : List Nat) : Upd fp fp w w' :=
  ⟨h.os, h.tape, h.output, h.size, fun k hk _ => h.block k hk, fun _ hk => .inl hk⟩
theorem Upd.of_below_new {w w' : World} (h : Below w.heap.size w w') {fp fp' : List Nat} (hf : ∀ k ∈ fp', w.heap.size ≤ k) : Upd fp fp' w w' :=
  ⟨h.os, h.tape, h.output, h.size, fun k hk _ => h.block k hk, fun k hk => .inr (hf k hk)⟩
theorem Upd.cell {a b : List Nat} {w w' : World} (h : Upd a b w w') {p : Addr} {v : Value} (hc : w.cell? p = some v) (hp : p.block ∉ a) : w'.cell? p = some v :=
  (World.cell?_of_block (w := w) (h.block p.block (World.block_lt_of_cell? w p hc) hp)).trans hc
theorem Upd.frozen {a b : List Nat} {w w' : World} (h : Upd a b w w') {p : Addr} (hl : p.block < w.heap.size) (hp : p.block ∉ a) : w'.frozen? p = w.frozen? p :=
  World.frozen?_of_block (w := w) (h.block p.block hl hp)

/-! ### A block that is known whole -/
def Blk (w : World) (g : Nat) (t : TypeId) (cs : Array Value) : Prop := w.heap[g]? = some (.cells cs t (0, 0))

section
variable {w w' : World} {g : Nat} {t : TypeId} {cs : Array Value}
theorem Blk.lt (h : Blk w g t cs) : g < w.heap.size := by
  rcases Nat.lt_or_ge g w.heap.size with hlt | hge
  · exact hlt
  · unfold Blk at h; rw [Array.getElem?_eq_none hge] at h; cases h
theorem Blk.cell (h : Blk w g t cs) (i : Nat) : w.cell? ⟨g, i, none⟩ = cs[i]? := cell_of_row w g i cs t (0, 0) h
theorem Blk.frozen (h : Blk w g t cs) (i : Nat) : w.frozen? ⟨g, i, none⟩ = false := by
  unfold Blk at h
  simp [World.frozen?, h]
theorem Blk.new (w : World) (t : TypeId) (cs : Array Value) : Blk (w.alloc (.cells cs t)) w.heap.size t cs := heap_alloc_new w _
theorem Blk.drew (h : Blk w g t cs) : Blk w.drew g t cs := h
theorem Blk.drewN (h : Blk w g t cs) (n : Nat) : Blk (w.drewN n) g t cs := h
theorem Blk.alloc (h : Blk w g t cs) (o : Obj) : Blk (w.alloc o) g t cs := (Below.heap_alloc w o g h.lt).trans h
theorem Blk.set_ (h : Blk w g t cs) (i : Nat) (u : Value) : Blk (w.setCell ⟨g, i, none⟩ u) g t (cs.setIfInBounds i u) := by
  unfold Blk at h ⊢
  simp [World.setCell, Array.getElem?_modify, h]
theorem Blk.far (h : Blk w g t cs) {p : Addr} (hp : g ≠ p.block) (u : Value) : Blk (w.setCell p u) g t cs := (Below.heap_setCell w p u g hp).trans h
theorem Blk.below {B : Nat} (h : Blk w g t cs) (hb : Below B w w') (hg : g < B) : Blk w' g t cs := (hb.block g hg).trans h
theorem Blk.grown {row : Option Nat} (h : Blk w g t cs) (hb : w.grownBy w' row) (hg : some g ≠ row) : Blk w' g t cs := (hb.block g h.lt hg).trans h
theorem Blk.upd {a b : List Nat} (h : Blk w g t cs) (hu : Upd a b w w') (hg : g ∉ a) : Blk w' g t cs := (hu.block g h.lt hg).trans h
theorem Blk.ne_ {g' : Nat} {t' : TypeId} {cs' : Array Value} (h : Blk w g t cs) (h' : Blk w g' t' cs') (hne : t ≠ t') : g ≠ g' := by
  rintro rfl
  unfold Blk at h h'
  rw [h] at h'
  injection h' with h'
  injection h' with _ ht
  exact hne ht
end

/-! ### A slice that reads as a list of cells (nil, too) -/
theorem block_of_add (a : Addr) (n : Nat) : (a.add n).block = a.block := by unfold Addr.add; split <;> rfl
theorem add_of_add (a : Addr) (i j : Nat) : (a.add i).add j = a.add (i + j) := by
  unfold Addr.add
  by_cases hi : i = 0 <;> by_cases hj : j = 0 <;> simp [hi, hj, Nat.add_assoc]

/-- The blocks of an address that may be nil. -/
def ablk : Option Addr → List Nat
  | some a => [a.block]
  | none => []

def Rd (w : World) (size : Nat) (A : Option Addr) (n : Nat) (xs : List Value) : Prop :=
  xs.length = n * size ∧ (0 < n → ∃ ad, A = some ad ∧ ∀ j u, xs[j]? = some u → w.cell? (ad.add j) = some u)

section
variable {w w' : World} {size n : Nat} {A : Option Addr} {xs : List Value}
theorem Rd.none_ : Rd w size A 0 [] := ⟨by simp, fun h => absurd h (by omega)⟩
theorem Rd.at_ {k : Nat} (h : Rd w 1 A n xs) (hk : k < n) : ∃ ad u, A = some ad ∧ xs[k]? = some u ∧ w.cell? (ad.add k) = some u := by
  obtain ⟨ad, e, hc⟩ := h.2 (by omega)
  have hl : k < xs.length := by have := h.1; omega
  exact ⟨ad, xs[k], e, List.getElem?_eq_getElem hl, hc k _ (List.getElem?_eq_getElem hl)⟩
theorem Rd.keep (h : Rd w size A n xs) (hk : ∀ (p : Addr) (u : Value), p.block ∈ ablk A → w.cell? p = some u → w'.cell? p = some u) : Rd w' size A n xs :=
  ⟨h.1, fun hn => by
    obtain ⟨ad, e, hc⟩ := h.2 hn
    exact ⟨ad, e, fun j u hu => hk _ _ (by rw [block_of_add, e]; simp [ablk]) (hc j u hu)⟩⟩
theorem Rd.upd {a b : List Nat} (h : Rd w size A n xs) (hu : Upd a b w w') (hd : ∀ k ∈ ablk A, k ∉ a) : Rd w' size A n xs :=
  h.keep fun _ _ hp hc => hu.cell hc (hd _ hp)
theorem Rd.drew (h : Rd w size A n xs) : Rd w.drew size A n xs := h
theorem Rd.drewN (h : Rd w size A n xs) (k : Nat) : Rd (w.drewN k) size A n xs := h
theorem Rd.alloc (h : Rd w size A n xs) (o : Obj) : Rd (w.alloc o) size A n xs :=
  h.keep fun p _ _ hc => (World.cell?_alloc_lt w o p (World.block_lt_of_cell? w p hc)).trans hc
theorem Rd.setCell (h : Rd w size A n xs) {p : Addr} (hp : p.block ∉ ablk A) (u : Value) : Rd (w.setCell p u) size A n xs :=
  h.keep fun q _ hq hc => (World.cell?_setCell_other w p q u (fun e => by subst e; exact hp hq)).trans hc
theorem Rd.grown (h : Rd w size A n xs) {row : Option Nat} (hg : w.grownBy w' row) (hr : ∀ g, row = some g → g ∉ ablk A) : Rd w' size A n xs :=
  h.keep fun _ _ hp hc => hg.cell hc (fun e => hr _ e.symm hp)
theorem Rd.cut (h : Rd w size A n xs) {k cap : Nat} (hk : k ≤ n) (hc : n ≤ cap) :
    Rd w size (if cap = k then A else A.map (·.add (k * size))) (n - k) (xs.drop (k * size)) := by
  refine ⟨by rw [List.length_drop, h.1, Nat.sub_mul], fun hn => ?_⟩
  obtain ⟨ad, rfl, hcell⟩ := h.2 (by omega)
  rw [if_neg (by omega)]
  refine ⟨ad.add (k * size), rfl, fun j u hu => ?_⟩
  rw [add_of_add]
  exact hcell _ u (by rw [← hu, List.getElem?_drop])
theorem Rd.take (h : Rd w size A n xs) {k : Nat} (hk : k ≤ n) : Rd w size A k (xs.take (k * size)) := by
  have := Nat.mul_le_mul_right size hk
  refine ⟨by rw [List.length_take, h.1]; omega, fun hn => ?_⟩
  obtain ⟨ad, rfl, hcell⟩ := h.2 (by omega)
  refine ⟨ad, rfl, fun j u hu => hcell _ u ?_⟩
  rw [List.getElem?_take] at hu
  split at hu
  · exact hu
  · cases hu
theorem Rd.of_own {base : Nat} {e : TypeId} {c : Nat} (h : w.ownsRow base e size (.slice A n c) n xs) : Rd w size A n xs := by
  refine ⟨h.1, fun hn => ?_⟩
  obtain ⟨g, cap, hv, _, hlt⟩ := h.form hn
  have hA : A = some ⟨g, 0, none⟩ := by injection hv
  subst hA
  exact ⟨_, rfl, h.cells (g := g) rfl⟩
theorem Rd.blk {g : Nat} {t : TypeId} {cs : List Value} (h : Blk w g t cs.toArray) (hl : cs.length = n * size) : Rd w size (some ⟨g, 0, none⟩) n cs :=
  ⟨hl, fun _ => ⟨_, rfl, fun j u hu => by
    have : (⟨g, 0, none⟩ : Addr).add j = ⟨g, j, none⟩ := by unfold Addr.add; split <;> simp_all
    rw [this, h.cell]; simpa using hu⟩⟩
end

/-! ### A row of the call's own; append onto it, whatever the source -/
def Own (e : TypeId) (size : Nat) (w : World) (A : Option Addr) (n c : Nat) (xs : List Value) : Prop := w.ownsRow 0 e size (.slice A n c) n xs
theorem Own.nil (e : TypeId) (size : Nat) (w : World) : Own e size w none 0 0 [] := World.ownsRow_nil _ _ _ _
theorem Own.made (e : TypeId) (size : Nat) (w : World) : Own e size (w.alloc (.cells #[] e)) (some ⟨w.heap.size, 0, none⟩) 0 0 [] := World.ownsRow_made w #[] 0 (Nat.zero_le _) (by simp [maxLen]) (by simp)
theorem Own.upd {e : TypeId} {size : Nat} {w w' : World} {A : Option Addr} {n c : Nat} {xs : List Value} {a b : List Nat} (h : Own e size w A n c xs) (hu : Upd a b w w') (hd : ∀ k ∈ ablk A, k ∉ a) : Own e size w' A n c xs := by
  refine ⟨h.1, ?_⟩
  rcases h.2 with hn | ⟨g, cap, cur, hv, hb, hgg, rest⟩
  · exact .inl hn
  · have hA : A = some ⟨g, 0, none⟩ := by injection hv
    exact .inr ⟨g, cap, cur, hv, hb, (hu.block g (Array.getElem?_eq_some_iff.1 hgg).1 (hd g (by simp [hA, ablk]))).trans hgg, rest⟩
theorem Own.drew {e : TypeId} {size : Nat} {w : World} {A : Option Addr} {n c : Nat} {xs : List Value} (h : Own e size w A n c xs) : Own e size w.drew A n c xs := h
theorem Own.drewN {e : TypeId} {size : Nat} {w : World} {A : Option Addr} {n c : Nat} {xs : List Value} (h : Own e size w A n c xs) (k : Nat) : Own e size (w.drewN k) A n c xs := h
theorem Own.alloc {e : TypeId} {size : Nat} {w : World} {A : Option Addr} {n c : Nat} {xs : List Value} (h : Own e size w A n c xs) (o : Obj) : Own e size (w.alloc o) A n c xs := World.ownsRow.alloc h o
theorem Own.rd {e : TypeId} {size : Nat} {w : World} {A : Option Addr} {n c : Nat} {xs : List Value} (h : Own e size w A n c xs) : Rd w size A n xs := Rd.of_own h
theorem Own.len {e : TypeId} {size : Nat} {w : World} {A : Option Addr} {n c : Nat} {xs : List Value} (h : Own e size w A n c xs) : xs.length = n * size := h.1
theorem Own.cap {e : TypeId} {size : Nat} {w : World} {A : Option Addr} {n c : Nat} {xs : List Value} (h : Own e size w A n c xs) : n ≤ c ∧ c ≤ maxLen := by
  rcases h.2 with ⟨hv, hn⟩ | ⟨g, cap, cur, hv, _, _, h1, h2, _⟩
  · injection hv with _ _ hc; subst hc hn; simp
  · injection hv with _ _ hc; subst hc; exact ⟨h1, h2⟩
theorem Own.lt {e : TypeId} {size : Nat} {w : World} {A : Option Addr} {n c : Nat} {xs : List Value} (h : Own e size w A n c xs) : ∀ k ∈ ablk A, k < w.heap.size := by
  intro k hk
  rcases h.2 with ⟨hv, _⟩ | ⟨g, cap, cur, hv, _, hg, _⟩
  · injection hv with hA; subst hA; simp [ablk] at hk
  · injection hv with hA; subst hA; simp [ablk] at hk; subst hk; exact (Array.getElem?_eq_some_iff.1 hg).1
theorem Own.ne {e : TypeId} {size : Nat} {w : World} {A : Option Addr} {n c : Nat} {xs : List Value} (h : Own e size w A n c xs) {g : Nat} {t : TypeId} {cs : Array Value} (hb : Blk w g t cs) (hne : e ≠ t) : g ∉ ablk A := by
  intro hm
  rcases h.2 with ⟨hv, _⟩ | ⟨g', cap, cur, hv, _, hh, _⟩
  · injection hv with hA; subst hA; simp [ablk] at hm
  · injection hv with hA; subst hA
    have : g = g' := by simpa [ablk] using hm
    subst this
    exact Blk.ne_ (t := e) hh hb hne rfl

section
variable {P : Program} (w : World)

theorem run_append_of_nil (base : Nat) (t ty e : TypeId) (i : TypeInfo) (size : Nat) (ht : P.underlying t = some (.slice e)) (hi : P.info? e = some i)
    (v : Value) (n : Nat) (xs : List Value) (hown : w.ownsRow base e size v n xs) (c : Nat) : (Builtin.append_ #[t, t] ty #[v, .slice none 0 c]).run P w = .ok v w := by
  rcases hown.2 with ⟨rfl, rfl⟩ | ⟨g, cap, cur, rfl, _, _, hnc, _⟩
  · simp [Builtin.append_, run_underlying ht, Go.sizeOf, typeInfo, hi, Builtin.lenOf, Builtin.firstCells]
  · simp [Builtin.append_, run_underlying ht, Go.sizeOf, typeInfo, hi, Builtin.lenOf, Builtin.firstCells, hnc, storeCells]

theorem run_app (t ty e : TypeId) {z : Value} {size bytes : Nat} (ht : P.underlying t = some (.slice e)) (hi : (P.info? e).map (fun i => (i.zero, i.size, i.bytes)) = some (some z, size, bytes))
    (hzs : z.cells.size = size) (hsz : 0 < size)
    (A0 : Option Addr) (n c0 : Nat) (xs : List Value) (hown : Own e size w A0 n c0 xs)
    (A : Option Addr) (m c : Nat) (news : List Value) (hr : Rd w size A m news) (h1 : ∀ u ∈ news, u.oneCell' = true)
    (h63 : n + m ≤ maxLen) (hbytes : (n + m) * bytes ≤ 140737488355328) :
    ∃ A' c' w', (Builtin.append_ #[t, t] ty #[.slice A0 n c0, .slice A m c]).run P w = .ok (.slice A' (n + m) c') w' ∧ Own e size w' A' (n + m) c' (xs ++ news) ∧ Upd (ablk A0) (ablk A') w w' := by
  obtain ⟨i, hi, hz, hsize, hby⟩ := info_parts hi
  rcases A with _ | ad
  · have hm : m = 0 := by
      rcases Nat.eq_zero_or_pos m with h0 | h0
      · exact h0
      · obtain ⟨ad, h, _⟩ := hr.2 h0
        cases h
    subst hm
    have hn : news = [] := List.eq_nil_of_length_eq_zero (by simpa using hr.1)
    subst hn
    exact ⟨A0, c0, w, run_append_of_nil w 0 t ty e i size ht hi _ n xs hown c, by simpa using hown, Upd.refl _ _⟩
  · have hcells : ∀ j u, news[j]? = some u → w.cell? (ad.add j) = some u := by
      intro j u hu
      rcases Nat.eq_zero_or_pos m with h0 | h0
      · subst h0
        have hn : news = [] := List.eq_nil_of_length_eq_zero (by simpa using hr.1)
        subst hn
        simp at hu
      · obtain ⟨ad', h, hc⟩ := hr.2 h0
        injection h with h
        subst h
        exact hc j u hu
    obtain ⟨v', w', hrun, h2, h3, _, h5⟩ := run_append_own_at (P := P) w 0 t ty e i z size bytes ht hi hz hsize hby hzs hsz _ n xs hown ad m c news hr.1 hcells h1 h63 hbytes (Nat.zero_le _)
    have hv : ∃ A' c', v' = .slice A' (n + m) c' := by
      rcases h2.2 with ⟨hv, hn⟩ | ⟨g, cap, cur, hv, _⟩
      · exact ⟨none, 0, by rw [hn]; exact hv⟩
      · exact ⟨_, _, hv⟩
    obtain ⟨A', c', rfl⟩ := hv
    refine ⟨A', c', w', hrun, h2, ?_⟩
    have e1 : (Value.slice A0 n c0).ownBlock.toList = ablk A0 := by cases A0 <;> rfl
    have e2 : (Value.slice A' (n + m) c').ownBlock.toList = ablk A' := by cases A' <;> rfl
    rw [← e1, ← e2]
    exact ⟨h3.os, h3.tape, h3.output, h3.size, fun k hk hn => h3.block k hk (fun e => hn (by simp [← e])), fun k hk => by
      rcases h5 with h | h
      · left; simpa [h] using hk
      · right; simp [h] at hk; omega⟩

theorem wp_app {o : Oper} {a : Act} {K : Act → World → Prop} {Q : Exit → Act → World → Prop} (s x : Operand) (t : TypeId)
    (ho : o.op = .call { callee := .builtin .append, args := #[s, x], argTypes := #[t, t] })
    (e : TypeId) {z : Value} {size bytes : Nat} (ht : P.underlying t = some (.slice e)) (hi : (P.info? e).map (fun i => (i.zero, i.size, i.bytes)) = some (some z, size, bytes))
    (hzs : z.cells.size = size) (hsz : 0 < size)
    {A0 : Option Addr} {n c0 : Nat} {xs : List Value} (hown : Own e size w A0 n c0 xs) (hs : a.eval s = .slice A0 n c0)
    {A : Option Addr} {m c : Nat} {news : List Value} (hr : Rd w size A m news) (hx : a.eval x = .slice A m c) (h1 : ∀ u ∈ news, u.oneCell' = true)
    (h63 : n + m ≤ maxLen) (hbytes : (n + m) * bytes ≤ 140737488355328)
    (h : ∀ A' c' w', Own e size w' A' (n + m) c' (xs ++ news) → Upd (ablk A0) (ablk A') w w' → K (a.put o.dst (.slice A' (n + m) c')) w') : o.wp P a w K Q := by
  obtain ⟨A', c', w', hrun, h2, h3⟩ := run_app (P := P) w t o.type e ht hi hzs hsz A0 n c0 xs hown A m c news hr h1 h63 hbytes
  unfold Oper.wp execOp
  simp only [ho, resolve, invoke, builtin, Sem.run_bind, Sem.run_pure, Result.andThen_ok, List.map_toArray, List.map_cons, List.map_nil, hs, hx, hrun]
  exact h A' c' w' h2 h3

theorem wpList_app {ops : Array Oper} {rest : List Oper} {o : Oper} {a : Act} {Q : Exit → Act → World → Prop} (hgd : o.guard = none) (s x : Operand) (t : TypeId)
    (ho : o.op = .call { callee := .builtin .append, args := #[s, x], argTypes := #[t, t] })
    (e : TypeId) {z : Value} {size bytes : Nat} (ht : P.underlying t = some (.slice e)) (hi : (P.info? e).map (fun i => (i.zero, i.size, i.bytes)) = some (some z, size, bytes))
    (hzs : z.cells.size = size) (hsz : 0 < size)
    {A0 : Option Addr} {n c0 : Nat} {xs : List Value} (hown : Own e size w A0 n c0 xs) (hs : a.eval s = .slice A0 n c0)
    {A : Option Addr} {m c : Nat} {news : List Value} (hr : Rd w size A m news) (hx : a.eval x = .slice A m c) (h1 : ∀ u ∈ news, u.oneCell' = true)
    (h63 : n + m ≤ maxLen) (hbytes : (n + m) * bytes ≤ 140737488355328)
    (h : ∀ A' c' w', Own e size w' A' (n + m) c' (xs ++ news) → Upd (ablk A0) (ablk A') w w' → wpList P ops Q rest (a.put o.dst (.slice A' (n + m) c')) w') : wpList P ops Q (o :: rest) a w :=
  wpList_plain hgd fun _ hK => wp_app w s x t ho e ht hi hzs hsz hown hs hr hx h1 h63 hbytes fun A' c' w' h2 h3 => hK _ _ (h A' c' w' h2 h3)
end

/-- The same where what is appended was built just now: the block that bears it counts as new. -/
theorem wpList_push {P : Program} {w : World} {ops : Array Oper} {rest : List Oper} {o : Oper} {a : Act} {Q : Exit → Act → World → Prop} (hgd : o.guard = none) (s x : Operand) (t : TypeId)
    (ho : o.op = .call { callee := .builtin .append, args := #[s, x], argTypes := #[t, t] })
    (e : TypeId) {z : Value} {size bytes : Nat} (ht : P.underlying t = some (.slice e)) (hi : (P.info? e).map (fun i => (i.zero, i.size, i.bytes)) = some (some z, size, bytes))
    (hzs : z.cells.size = size) (hsz : 0 < size)
    {A0 : Option Addr} {n c0 : Nat} {xs : List Value} (hown : Own e size w A0 n c0 xs) (hs : a.eval s = .slice A0 n c0)
    (H : Nat) (hH : H = w.heap.size) {m c : Nat} {news : List Value} (hx : a.eval x = .slice (some ⟨H, 0, none⟩) m c) (hl : news.length = m * size) (h1 : news.all (·.oneCell') = true)
    (h63 : n + m ≤ maxLen) (hbytes : (n + m) * bytes ≤ 140737488355328)
    (h : ∀ A' c' w', Own e size w' A' (n + m) c' (xs ++ news) → Upd (ablk A0) (ablk A') w w' → wpList P ops Q rest (a.put o.dst (.slice A' (n + m) c')) w') : wpList P ops Q (o :: rest) a (w.alloc (.cells news.toArray e)) := by
  subst hH
  exact wpList_app _ hgd s x t ho e ht hi hzs hsz (hown.alloc _) hs (Rd.blk (Blk.new _ _ _) hl) hx (by simpa using h1) h63 hbytes
    fun A' c' w' h2 h3 => h A' c' w' h2 (((Upd.refl (ablk A0) w).alloc _).trans h3)

/-- Marks of a list of operations whose first is an append, or a copy: a walk that is to stop there asks 'fail_if_success (refine stop_append rfl ?_)'. -/
theorem stop_append {P : Program} {ops : Array Oper} {rest : List Oper} {o : Oper} {a : Act} {Q : Exit → Act → World → Prop} {w : World} {x y : Operand} {t t' : TypeId}
    (_ : o.op = .call { callee := .builtin .append, args := #[x, y], argTypes := #[t, t'] }) (h : wpList P ops Q (o :: rest) a w) : wpList P ops Q (o :: rest) a w := h
theorem stop_copy {P : Program} {ops : Array Oper} {rest : List Oper} {o : Oper} {a : Act} {Q : Exit → Act → World → Prop} {w : World} {x y : Operand} {t t' : TypeId}
    (_ : o.op = .call { callee := .builtin .copy, args := #[x, y], argTypes := #[t, t'] }) (h : wpList P ops Q (o :: rest) a w) : wpList P ops Q (o :: rest) a w := h

/-! ### Bytes as cells -/
def B8 (b : UInt8) : Value := .int .u8 (b.toNat : Int)
def b8s (l : List UInt8) : List Value := l.map B8
@[simp] theorem b8s_length (l : List UInt8) : (b8s l).length = l.length := by simp [b8s]
theorem b8s_append (a b : List UInt8) : b8s (a ++ b) = b8s a ++ b8s b := by simp [b8s]
theorem b8s_one (l : List UInt8) : ∀ u ∈ b8s l, u.oneCell' = true := by
  intro u hu; simp only [b8s, List.mem_map] at hu; obtain ⟨b, _, rfl⟩ := hu; rfl
theorem B8_ofNat {n : Nat} (h : n < 256) : B8 (UInt8.ofNat n) = .int .u8 (n : Int) := by
  simp [B8, Nat.mod_eq_of_lt h]
theorem b8s_eq {l : List UInt8} {n : Nat} {x : Int} (h : n < 256) (hx : x = n) : b8s l ++ [Value.int .u8 x] = b8s (l ++ [UInt8.ofNat n]) := by
  subst hx; rw [b8s_append]; congr 1; simp only [b8s, List.map_cons, List.map_nil, B8_ofNat h]
/-- A slice that reads as bytes. -/
def RdB (w : World) (A : Option Addr) (n : Nat) (l : List UInt8) : Prop := Rd w 1 A n (b8s l)
theorem RdB.len {w : World} {A : Option Addr} {n : Nat} {l : List UInt8} (h : RdB w A n l) : n = l.length := by have := h.1; simp at this; omega
theorem RdB.upd {w w' : World} {A : Option Addr} {n : Nat} {l : List UInt8} {a b : List Nat} (h : RdB w A n l) (hu : Upd a b w w') (hd : ∀ k ∈ ablk A, k ∉ a) : RdB w' A n l := Rd.upd h hu hd
theorem RdB.alloc {w : World} {A : Option Addr} {n : Nat} {l : List UInt8} (h : RdB w A n l) (o : Obj) : RdB (w.alloc o) A n l := Rd.alloc h o
theorem RdB.nil (w : World) (A : Option Addr) : RdB w A 0 [] := ⟨rfl, fun h => absurd h (by omega)⟩

/-- A row of bytes of the call's own. -/
structure OwnB (T : TypeId) (w : World) (A : Option Addr) (n c : Nat) (l : List UInt8) : Prop where
  len : n = l.length
  own : Own T 1 w A n c (b8s l)
theorem OwnB.nil (T : TypeId) (w : World) : OwnB T w none 0 0 [] := ⟨rfl, Own.nil _ _ _⟩
theorem OwnB.made (T : TypeId) (w : World) : OwnB T (w.alloc (.cells #[] T)) (some ⟨w.heap.size, 0, none⟩) 0 0 [] := ⟨rfl, Own.made _ _ _⟩
theorem OwnB.upd {T : TypeId} {w w' : World} {A : Option Addr} {n c : Nat} {l : List UInt8} {a b : List Nat} (h : OwnB T w A n c l) (hu : Upd a b w w') (hd : ∀ k ∈ ablk A, k ∉ a) : OwnB T w' A n c l := ⟨h.len, h.own.upd hu hd⟩
theorem OwnB.drew {T : TypeId} {w : World} {A : Option Addr} {n c : Nat} {l : List UInt8} (h : OwnB T w A n c l) : OwnB T w.drew A n c l := ⟨h.len, h.own⟩
theorem OwnB.alloc {T : TypeId} {w : World} {A : Option Addr} {n c : Nat} {l : List UInt8} (h : OwnB T w A n c l) (o : Obj) : OwnB T (w.alloc o) A n c l := ⟨h.len, h.own.alloc o⟩
theorem OwnB.rd {T : TypeId} {w : World} {A : Option Addr} {n c : Nat} {l : List UInt8} (h : OwnB T w A n c l) : RdB w A n l := h.own.rd
/-- One byte more, at 'append(b, c)' on a row of bytes. -/
theorem wpList_pushB {P : Program} {w : World} {ops : Array Oper} {rest : List Oper} {o : Oper} {a : Act} {Q : Exit → Act → World → Prop} (hgd : o.guard = none) (s x : Operand) (t : TypeId)
    (ho : o.op = .call { callee := .builtin .append, args := #[s, x], argTypes := #[t, t] })
    (e : TypeId) (ht : P.underlying t = some (.slice e)) (hi : (P.info? e).map (fun i => (i.zero, i.size, i.bytes)) = some (some (.int .u8 0), 1, 1))
    {A0 : Option Addr} {k c0 : Nat} {l : List UInt8} (hown : OwnB e w A0 k c0 l) (hs : a.eval s = .slice A0 k c0)
    (H : Nat) (hH : H = w.heap.size) (y : Int) (hx : a.eval x = .slice (some ⟨H, 0, none⟩) 1 1)
    (n : Nat) (hn : n < 256) (hy : y = n) (hb : l.length + 1 ≤ 140737488355328)
    (h : ∀ A' k' c' w', OwnB e w' A' k' c' (l ++ [UInt8.ofNat n]) → Upd (ablk A0) (ablk A') w w' → wpList P ops Q rest (a.put o.dst (.slice A' k' c')) w') : wpList P ops Q (o :: rest) a (w.alloc (.cells #[.int .u8 y] e)) := by
  have hk := hown.len
  refine wpList_push hgd s x t ho e ht hi rfl (by decide) hown.own hs H hH (news := [.int .u8 y]) hx rfl rfl (by unfold maxLen; omega) (by omega)
    fun A' c' w' h2 h3 => h A' _ c' w' ⟨by simp [hk], ?_⟩ h3
  rwa [b8s_eq hn hy] at h2
/-- 'append(b, c...)' onto a row of bytes. -/
theorem wpList_appB {P : Program} {w : World} {ops : Array Oper} {rest : List Oper} {o : Oper} {a : Act} {Q : Exit → Act → World → Prop} (hgd : o.guard = none) (s x : Operand) (t : TypeId)
    (ho : o.op = .call { callee := .builtin .append, args := #[s, x], argTypes := #[t, t] })
    (e : TypeId) (ht : P.underlying t = some (.slice e)) (hi : (P.info? e).map (fun i => (i.zero, i.size, i.bytes)) = some (some (.int .u8 0), 1, 1))
    {A0 : Option Addr} {k c0 : Nat} {l : List UInt8} (hown : OwnB e w A0 k c0 l) (hs : a.eval s = .slice A0 k c0)
    {A : Option Addr} {m c : Nat} {r : List UInt8} (hr : RdB w A m r) (hx : a.eval x = .slice A m c) (hb : l.length + r.length ≤ 140737488355328)
    (h : ∀ A' k' c' w', OwnB e w' A' k' c' (l ++ r) → Upd (ablk A0) (ablk A') w w' → wpList P ops Q rest (a.put o.dst (.slice A' k' c')) w') : wpList P ops Q (o :: rest) a w := by
  have hk := hown.len
  have hm := hr.len
  refine wpList_app w hgd s x t ho e ht hi rfl (by decide) hown.own hs hr hx (b8s_one r) (by unfold maxLen; omega) (by omega)
    fun A' c' w' h2 h3 => h A' _ c' w' ⟨by simp [hk, hm], ?_⟩ h3
  rwa [b8s_append]
theorem b8s_get (l : List UInt8) (k : Nat) (h : k < l.length) : (b8s l)[k]? = some (.int .u8 (l[k].toNat : Int)) := by
  simp [b8s, B8, h]


/-! ### string(b) -/
theorem foldl_push (ns : List UInt8) (s : ByteArray) : (ns.map (fun b => (b.toNat : Int))).foldl (fun r n => r.push (UInt8.ofNat n.toNat)) s = ⟨s.data ++ ns.toArray⟩ := by
  induction ns generalizing s with
  | nil => simp
  | cons b ns ih =>
    simp only [List.map_cons, List.foldl_cons]
    rw [ih]
    simp [ByteArray.push]
theorem loadCells_rd {P : Program} {w : World} {ad : Addr} {n : Nat} {xs : List Value} (hl : xs.length = n) (h : ∀ j u, xs[j]? = some u → w.cell? (ad.add j) = some u) : (loadCells ad n).run P w = .ok xs.toArray w := by
  subst hl
  exact run_loadCells_list w ad xs h
/-- 'string(b)'. -/
theorem run_bytes_str {P : Program} {w : World} {src dst e : TypeId} (hs : P.underlying src = some (.slice e)) (he : P.underlying e = some (.int .u8)) (hd : P.underlying dst = some .string)
    {A : Option Addr} {n : Nat} {l : List UInt8} (h : RdB w A n l) (c : Nat) : (convert src dst (.slice A n c)).run P w = .ok (.string ⟨l.toArray⟩) w := by
  rw [run_convert_bytes_string w src dst e A n c hs he hd]
  rcases A with _ | ad
  · have hl : l = [] := by
      rcases Nat.eq_zero_or_pos n with h0 | h0
      · exact List.eq_nil_of_length_eq_zero (by rw [← h.len, h0])
      · obtain ⟨_, h, _⟩ := h.2 h0; cases h
    subst hl
    simp [Conv.bytesToString, Sem.run_pure]; rfl
  · rcases Nat.eq_zero_or_pos n with h0 | h0
    · subst h0
      obtain rfl : l = [] := List.eq_nil_of_length_eq_zero h.len.symm
      rw [run_bytesToString w ad 0 c [] (loadCells_rd (xs := []) rfl (by simp))]
      rfl
    · obtain ⟨ad', e', hc⟩ := h.2 h0
      injection e' with e'; subst e'
      have hx : b8s l = (l.map fun b => (b.toNat : Int)).map (Value.int .u8) := by simp [b8s, B8]
      rw [run_bytesToString w ad n c (l.map fun b => (b.toNat : Int)) (by rw [← hx]; exact loadCells_rd (by have := h.len; simp; omega) hc), foldl_push]
      simp
end Agio
