/- A side in memory: its orders by number, of each price a row; New, Len, Get. -/
import Derived.Test.YtdmmpcdilkcfjaaQueue6
import Derived.Test.YtdmmpcdilkcfjaaPlainKeys
namespace Go.Proofs.Ytdmmpcdilkcfjaa
open Go.RowKit Agio Go.Maps

def _root_.Agio.Ord.cells (o : Ord) : List Value := [.int .i64 o.id, .int .i64 o.client, .int .i64 o.side, .int .i64 o.price, .int .i64 o.qty, .bool o.peg, .int .i64 o.off]
def _root_.Agio.Ord.val (o : Ord) : Value := .agg #[.int .i64 o.id, .int .i64 o.client, .int .i64 o.side, .int .i64 o.price, .int .i64 o.qty, .bool o.peg, .int .i64 o.off]
def ordZ : Value := .agg #[.int .i64 0, .int .i64 0, .int .i64 0, .int .i64 0, .int .i64 0, .bool false, .int .i64 0]
def ord0 : Ord := ⟨0, 0, 0, 0, 0, false, 0⟩
theorem ord0_val : ord0.val = ordZ := rfl
theorem ord_len (o : Ord) : o.cells.length = 7 := rfl
def itO (o : Ord) : Itm := (o.id, o.qty)
theorem wf64 {x : Int} (h0 : -9223372036854775808 ≤ x) (h1 : x ≤ 9223372036854775807) : (Lit.int .i64 x).wf = true := by
  have e1 : IntKind.i64.min = -9223372036854775808 := by decide
  have e2 : IntKind.i64.max = 9223372036854775807 := by decide
  simp only [Lit.wf, e1, e2, Bool.and_eq_true, decide_eq_true_eq]; omega

/-- A price's row, in memory. -/
structure Rw where
  p : Int
  g : Nat
  A : Option Addr
  n : Nat
  c : Nat
def Rw.val (r : Rw) : Value := .pointer (some ⟨r.g, 0, none⟩)
def Rw.fp (r : Rw) : List Nat := fpQ r.g r.A
def rowR (p : Int) (R : List Rw) : Option Rw := R.find? fun r => decide (r.p = p)
/-- The blocks of a side. -/
def fpS (g bo br : Nat) (R : List Rw) : List Nat := g :: bo :: br :: R.flatMap Rw.fp
/-- The map of a side's orders. -/
def OrdM (w : World) (b : Nat) (L : List Ord) : Prop := ∃ M, MapI Try.prog 2 w b M ∧ M.length = L.length ∧ ∀ i, lookK i M = (findO i L).map Ord.val
/-- The map of its rows. -/
def RowM (w : World) (b : Nat) (R : List Rw) : Prop := ∃ K, MapI Try.prog 2 w b K ∧ ∀ p, lookK p K = (rowR p R).map Rw.val
/-- A side. -/
structure SideS (w : World) (g : Nat) (s : Int) (bo br : Nat) (R : List Rw) (L : List Ord) : Prop where
  blk : Blk w g 94 #[.int .i64 s, .map (some bo), .map (some br)]
  ords : OrdM w bo L
  rows : RowM w br R
  each : ∀ r ∈ R, QuS w r.g r.A r.n r.c ((atP r.p L).map itO) ∧ atP r.p L ≠ []
  all : ∀ o ∈ L, ∃ r ∈ R, r.p = o.price
  ps : (R.map Rw.p).Nodup
  far : R.Pairwise fun r r' => ∀ k ∈ r.fp, k ∉ r'.fp
  bs : bo ≠ br
  sd : Sd s L
  side : s = 1 ∨ s = 2
  wf : ∀ o ∈ L, (Lit.int .i64 o.id).wf = true
section
variable {w w' : World} {g bo br : Nat} {s : Int} {R : List Rw} {L : List Ord}
theorem OrdM.upd {b : Nat} {x y : List Nat} (h : OrdM w b L) (hu : Upd x y w w') (hb : b ∉ x) : OrdM w' b L := by
  obtain ⟨M, h1, h2⟩ := h
  exact ⟨M, h1.upd hu hb, h2⟩
theorem RowM.upd {b : Nat} {x y : List Nat} (h : RowM w b R) (hu : Upd x y w w') (hb : b ∉ x) : RowM w' b R := by
  obtain ⟨M, h1, h2⟩ := h
  exact ⟨M, h1.upd hu hb, h2⟩
theorem OrdM.lt {b : Nat} (h : OrdM w b L) : b < w.heap.size := by obtain ⟨M, h1, _⟩ := h; exact h1.lt
theorem RowM.lt {b : Nat} (h : RowM w b R) : b < w.heap.size := by obtain ⟨M, h1, _⟩ := h; exact h1.lt
theorem _root_.Agio.MapI.notCells {b : Nat} {M : KV} {k : TypeId} (h : MapI Try.prog k w b M) {t : TypeId} {cs : Array Value} {f : Nat × Nat} : w.heap[b]? ≠ some (.cells cs t f) := by
  obtain ⟨es, clock, hb, _⟩ := h
  rw [hb]; intro e; injection e with e; injection e
theorem blk_not_map {b : Nat} {M : KV} {k t : TypeId} {cs : Array Value} (h : MapI Try.prog k w b M) (hg : Blk w g t cs) : g ≠ b := by
  rintro rfl; exact h.notCells hg
theorem own_not_map {b : Nat} {M : KV} {k e : TypeId} {size : Nat} {A : Option Addr} {n c : Nat} {xs : List Value} (h : MapI Try.prog k w b M) (ho : Agio.Own e size w A n c xs) : b ∉ ablk A := by
  intro hm
  rcases ho.2 with ⟨hv, _⟩ | ⟨g', cap, cur, hv, _, hh, _⟩
  · injection hv with hA; subst hA; simp [ablk] at hm
  · injection hv with hA; subst hA
    have : b = g' := by simpa [ablk] using hm
    subst this
    exact h.notCells hh
theorem SideS.gbo (h : SideS w g s bo br R L) : g ≠ bo := by obtain ⟨M, h1, _⟩ := h.ords; exact blk_not_map h1 h.blk
theorem SideS.gbr (h : SideS w g s bo br R L) : g ≠ br := by obtain ⟨M, h1, _⟩ := h.rows; exact blk_not_map h1 h.blk
theorem QuS.notMap {b gq : Nat} {M : KV} {k : TypeId} {A : Option Addr} {n c : Nat} {l : Its} (h : MapI Try.prog k w b M) (hq : QuS w gq A n c l) : b ∉ fpQ gq A := by
  intro hm
  rcases List.mem_cons.1 hm with rfl | hm
  · exact blk_not_map h hq.blk rfl
  · exact own_not_map h hq.row hm
theorem QuS.notBlk {gq : Nat} {t : TypeId} {cs : Array Value} {A : Option Addr} {n c : Nat} {l : Its} (hg : Blk w g t cs) (hq : QuS w gq A n c l) (h1 : 139 ≠ t) (h2 : 99 ≠ t) : g ∉ fpQ gq A := by
  intro hm
  rcases List.mem_cons.1 hm with rfl | hm
  · exact Blk.ne_ hq.blk hg h1 rfl
  · exact hq.row.ne hg h2 hm
theorem SideS.rowOut (h : SideS w g s bo br R L) {r : Rw} (hr : r ∈ R) : g ∉ r.fp ∧ bo ∉ r.fp ∧ br ∉ r.fp := by
  have hq := (h.each r hr).1
  obtain ⟨M, h1, _⟩ := h.ords
  obtain ⟨K, h2, _⟩ := h.rows
  exact ⟨hq.notBlk h.blk (by decide) (by decide), hq.notMap h1, hq.notMap h2⟩
theorem SideS.upd {a b : List Nat} (h : SideS w g s bo br R L) (hu : Upd a b w w') (hd : ∀ k ∈ fpS g bo br R, k ∉ a) : SideS w' g s bo br R L :=
  ⟨h.blk.upd hu (hd g (by simp [fpS])), h.ords.upd hu (hd bo (by simp [fpS])), h.rows.upd hu (hd br (by simp [fpS])),
    fun r hr => ⟨(h.each r hr).1.upd hu (fun k hk => hd k (by simp only [fpS, List.mem_cons, List.mem_flatMap]; exact .inr (.inr (.inr ⟨r, hr, hk⟩)))), (h.each r hr).2⟩,
    h.all, h.ps, h.far, h.bs, h.sd, h.side, h.wf⟩
theorem SideS.upd0 {b : List Nat} (h : SideS w g s bo br R L) (hu : Upd [] b w w') : SideS w' g s bo br R L := h.upd hu (by simp)
theorem SideS.lt (h : SideS w g s bo br R L) : ∀ k ∈ fpS g bo br R, k < w.heap.size := by
  intro k hk
  simp only [fpS, List.mem_cons, List.mem_flatMap] at hk
  rcases hk with rfl | rfl | rfl | ⟨r, hr, hk⟩
  · exact h.blk.lt
  · exact h.ords.lt
  · exact h.rows.lt
  · exact (h.each r hr).1.lt k hk
/-- What a look-up of an order gives. -/
theorem OrdM.look {b : Nat} (h : OrdM w b L) {id : Int} (hw : (Lit.int .i64 id).wf = true) : ∀ N, (Instr.lookup 91 (.map (some b)) (.int .i64 id) true).run Try.prog (w.drewN N) = .ok (.tuple #[((findO id L).map Ord.val).getD ordZ, .bool (findO id L).isSome]) (w.drewN N) := by
  intro N
  obtain ⟨M, h1, _, h3⟩ := h
  have := (show MapI Try.prog 2 (w.drewN N) b M from h1).look_ok Try.underlying2 Try.underlying91 (Try.zeroValue32 _) hw
  rw [h3] at this
  simpa [ordZ] using this
theorem OrdM.look1 {b : Nat} (h : OrdM w b L) {id : Int} (hw : (Lit.int .i64 id).wf = true) : ∀ N, (Instr.lookup 91 (.map (some b)) (.int .i64 id) false).run Try.prog (w.drewN N) = .ok (((findO id L).map Ord.val).getD ordZ) (w.drewN N) := by
  intro N
  obtain ⟨M, h1, _, h3⟩ := h
  have := (show MapI Try.prog 2 (w.drewN N) b M from h1).look Try.underlying2 Try.underlying91 (Try.zeroValue32 _) hw
  rw [h3] at this
  simpa [ordZ] using this
theorem OrdM.len {b : Nat} (h : OrdM w b L) (ty : TypeId) : (Builtin.len_ #[91] ty #[.map (some b)]).run Try.prog w = .ok (.int .i64 (L.length : Int)) w := by
  obtain ⟨M, h1, h2, _⟩ := h
  rw [← h2]
  exact h1.len Try.underlying91 ty
theorem RowM.look {b : Nat} (h : RowM w b R) {p : Int} (hw : (Lit.int .i64 p).wf = true) : ∀ N, (Instr.lookup 92 (.map (some b)) (.int .i64 p) false).run Try.prog (w.drewN N) = .ok (((rowR p R).map Rw.val).getD (.pointer none)) (w.drewN N) := by
  intro N
  obtain ⟨M, h1, h3⟩ := h
  have := (show MapI Try.prog 2 (w.drewN N) b M from h1).look Try.underlying2 Try.underlying92 (Try.zeroValue96 _) hw
  rw [h3] at this
  exact this
end
theorem findO_len {L : List Ord} {id : Int} : (findO id L).isSome = true → 0 < L.length := by
  intro h
  cases L with
  | nil => simp [findO] at h
  | cons _ _ => simp

set_option maxRecDepth 100000 in
theorem sideNew (w : World) (s : Int) (hs : s = 1 ∨ s = 2) : Calls Try.prog 15 #[.int .i64 s] w fun e w' => ∃ g bo br, e = .returned (.pointer (some ⟨g, 0, none⟩)) ∧ SideS w' g s bo br [] [] ∧ Upd [] (fpS g bo br []) w w' := by
  have hmm := @run_makeMap Try.prog
  have key : ∀ W : World, W = ((w.alloc (.map #[] 0)).alloc (.map #[] 0)).alloc (.cells #[.int .i64 s, .map (some w.heap.size), .map (some (w.heap.size + 1))] 94) →
      SideS W (w.heap.size + 2) s w.heap.size (w.heap.size + 1) [] [] ∧ Upd [] (fpS (w.heap.size + 2) w.heap.size (w.heap.size + 1) []) w W := by
    rintro W rfl
    have m1 := ((MapI.made Try.prog 2 w).alloc (.map #[] 0)).alloc (.cells #[.int .i64 s, .map (some w.heap.size), .map (some (w.heap.size + 1))] 94)
    have m2 := (MapI.made Try.prog 2 (w.alloc (.map #[] 0))).alloc (.cells #[.int .i64 s, .map (some w.heap.size), .map (some (w.heap.size + 1))] 94)
    rw [World.size_alloc] at m2
    have hb := Blk.new ((w.alloc (.map #[] 0)).alloc (.map #[] 0)) 94 #[.int .i64 s, .map (some w.heap.size), .map (some (w.heap.size + 1))]
    rw [World.size_alloc, World.size_alloc] at hb
    refine ⟨⟨hb, ⟨[], m1, rfl, fun _ => rfl⟩, ⟨[], m2, fun _ => rfl⟩, by simp, by simp, by simp, .nil, by omega, Sd.nil s, hs, by simp⟩, ?_⟩
    exact ((((Upd.refl [] w).alloc _).alloc _).alloc _).gives (by simp [fpS])
  rcases hs with rfl | rfl
  all_goals
    go_enter Try.func15, Try.ntmps15
    repeat' ((fail_if_success (with_reducible refine stop_append rfl ?_)); (fail_if_success (with_reducible refine stop_copy rfl ?_)); first | go_values | go_skip | go_guarded | go_step | go_upon | (simp only []; go_at_K))
    go_ret
    exact ⟨_, _, _, rfl, (key _ rfl).1, (key _ rfl).2⟩

set_option maxRecDepth 100000 in
theorem sideLen (w : World) (g bo br : Nat) (s : Int) (R : List Rw) (L : List Ord) (h : SideS w g s bo br R L) :
    Calls Try.prog 10 #[.pointer (some ⟨g, 0, none⟩)] w fun e w' => e = .returned (.int .i64 (L.length : Int)) ∧ w = w' := by
  obtain ⟨⟨q0, q1, q2⟩, -⟩ := h.blk.c3
  have hl := h.ords.len 3
  go_enter Try.func10, Try.ntmps10
  repeat' ((fail_if_success (with_reducible refine stop_append rfl ?_)); (fail_if_success (with_reducible refine stop_copy rfl ?_)); first | go_values | go_skip | go_guarded | go_step | go_upon | (simp only []; go_at_K))
  go_ret
  exact ⟨rfl, rfl⟩
end Go.Proofs.Ytdmmpcdilkcfjaa
