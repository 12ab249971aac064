/- wire.Code and wire.At of joined errors, wire.Code of a text's error; errors.Join of two errors. -/
import Derived.Test.YtchlceolccfdhaaDoorJoin2
import Derived.Laws.MakeOwn
namespace Go.Proofs.YtchlceolccfdhaaDoor
open Go.RowKit Go.Extern.Stop Go.Stop Go.Extern Agio

set_option maxRecDepth 100000 in
set_option maxHeartbeats 1000000 in
theorem at_of (t : TypeId) (x : Value) (m : Int) (w : World)
    (C : Calls Tryd.prog 64 #[.iface t x, .iface 134 (.pointer (some ⟨w.heap.size + 1, 0, none⟩))] ((w.alloc (.cells #[.int .i64 0] 3)).alloc (.cells #[.int .i64 0, .int .i64 0] 133)) fun ev w' => ev = .returned (.bool true) ∧ (∃ n, Blk w' (w.heap.size + 1) 133 #[.int .i64 n, .int .i64 m]) ∧ Upd [w.heap.size + 1] [w.heap.size + 1] ((w.alloc (.cells #[.int .i64 0] 3)).alloc (.cells #[.int .i64 0, .int .i64 0] 133)) w') :
    Calls Tryd.prog 35 #[.iface t x] w fun ev w' => ev = .returned (.int .i64 m) ∧ Upd [] [] w w' := by
  have hmf : ∀ (fn : Fn) (first cap : Array Value) (w : World), (Instr.makeFunc fn first cap).run Tryd.prog w = .ok (.func fn first cap) w := fun _ _ _ _ => rfl
  have HC := Lib.hid C; clear C
  go_enter_defers Tryd.func35, Tryd.ntmps35
  repeat' ((fail_if_success (with_reducible refine stop_append rfl ?_)); (fail_if_success (with_reducible refine stop_copy rfl ?_)); first | go_values | go_skip | go_guarded | go_step | go_upon | (simp only []; go_at_K))
  refine HC.out.mono ?_
  rintro ev w1 ⟨rfl, ⟨n, hbf⟩, hu1⟩
  clear HC
  have hb0 : Blk w1 w.heap.size 3 #[.int .i64 0] := ((Blk.new w 3 #[.int .i64 0]).alloc _).upd hu1 (by simp)
  have hc0 := hb0.cell 0
  have hf0 := hb0.frozen 0
  have hcF := hbf.cell 1
  simp at hc0 hcF
  repeat' ((fail_if_success (with_reducible refine stop_append rfl ?_)); (fail_if_success (with_reducible refine stop_copy rfl ?_)); first | go_values | go_skip | go_guarded | go_step | go_upon | (simp only []; go_at_K))
  refine leaves_cons (f := 67) (args := #[.pointer (some ⟨w.heap.size, 0, none⟩)]) (by simp) (by simp [go_sem]) ?_
  refine (at_idle ⟨w.heap.size, 0, none⟩ _).mono ?_
  rintro e u' w'' ⟨rfl, rfl, rfl⟩
  simp [Leaves, settle, results, Tryd.results35, go_sem, hc0]
  exact ((((((Upd.refl [] w).alloc _).alloc _).gives (b' := [w.heap.size + 1]) (by simp)).trans hu1).setCell (.inr (by simp)) _).gives (by simp)

/-- Two errors, joined: the first one of errors.New, the second one of this program. -/
structure Joined (w : World) (j : Nat) (v : Value) (e : Er) : Prop where
  ex : ∃ (n : Nat) (ad : Addr), Blk w j 124 #[.slice (some ad) 2 n] ∧ w.cell? ad = some (.iface 125 v) ∧ w.cell? (ad.add 1) = some e.val
theorem Joined.lt {w : World} {j : Nat} {v : Value} {e : Er} (h : Joined w j v e) : j < w.heap.size := by
  obtain ⟨n, ad, hb, _⟩ := h.ex; exact hb.lt
theorem Joined.upd {w w' : World} {j : Nat} {v : Value} {e : Er} {b : List Nat} (h : Joined w j v e) (hu : Upd [] b w w') : Joined w' j v e := by
  obtain ⟨n, ad, hb, h0, h1⟩ := h.ex
  exact ⟨n, ad, hb.upd hu (by simp), hu.cell h0 (by simp), hu.cell h1 (by simp)⟩
theorem codeJoined (v : Value) (e : Er) (j : Nat) (w : World) (hG : GoodG w) (h : Joined w j v e) :
    Calls Tryd.prog 31 #[.iface 122 (.pointer (some ⟨j, 0, none⟩))] w fun ev w' => ev = .returned (.int .i64 e.code) ∧ Upd [] [] w w' := by
  have hlj := h.lt
  refine code_of _ _ _ _ (errorsAsErrno_of _ _ _ _ ((hG.alloc _).alloc _) true _ ?_)
  have h2 := h.upd ((((Upd.refl [] w).alloc (.cells #[.int .i64 0] 53)).alloc (.cells #[.int .i64 0] 53)).alloc (.cells #[.pointer (some ⟨w.heap.size + 1, 0, none⟩)] 120))
  have h3 := h2.upd ((Upd.refl [] _).alloc (.cells #[.pointer (some ⟨1, 120, none⟩), .pointer (some ⟨((w.alloc (.cells #[.int .i64 0] 53)).alloc (.cells #[.int .i64 0] 53)).heap.size, 0, none⟩), .int .u64 150] 187))
  obtain ⟨n, ad, hb, h0, h1⟩ := h3.ex
  have hg : Blk ((w.alloc (.cells #[.int .i64 0] 53)).alloc (.cells #[.int .i64 0] 53)) (w.heap.size + 1) 53 #[.int .i64 0] := by
    have := Blk.new (w.alloc (.cells #[.int .i64 0] 53)) 53 #[.int .i64 0]
    rwa [World.size_alloc] at this
  refine (as_joinErrno e v j (w.heap.size + 1) n ad _ (.int .i64 0) _ hb h0 h1 ((hg.alloc _).alloc _) ?_ (by omega)).mono fun ev w' ⟨he, hb', hu'⟩ => ⟨he, hb', (((Upd.refl _ _).alloc _).alloc _).trans hu'⟩
  exact ((Blk.new _ _ _).alloc _).cell 0
theorem atJoined (v : Value) (e : Er) (m : Int) (hat : e.at_ = some m) (j : Nat) (w : World) (hG : GoodG w) (h : Joined w j v e) :
    Calls Tryd.prog 35 #[.iface 122 (.pointer (some ⟨j, 0, none⟩))] w fun ev w' => ev = .returned (.int .i64 m) ∧ Upd [] [] w w' := by
  have hlj := h.lt
  refine at_of _ _ _ _ (errorsAsWf_of _ _ _ _ ((hG.alloc _).alloc _) true _ ?_)
  have h2 := h.upd ((((Upd.refl [] w).alloc (.cells #[.int .i64 0] 3)).alloc (.cells #[.int .i64 0, .int .i64 0] 133)).alloc (.cells #[.pointer (some ⟨w.heap.size + 1, 0, none⟩)] 134))
  have h3 := h2.upd ((Upd.refl [] _).alloc (.cells #[.pointer (some ⟨1, 134, none⟩), .pointer (some ⟨((w.alloc (.cells #[.int .i64 0] 3)).alloc (.cells #[.int .i64 0, .int .i64 0] 133)).heap.size, 0, none⟩), .int .u64 150] 187))
  obtain ⟨n, ad, hb, h0, h1⟩ := h3.ex
  have hg : Blk ((w.alloc (.cells #[.int .i64 0] 3)).alloc (.cells #[.int .i64 0, .int .i64 0] 133)) (w.heap.size + 1) 133 #[.int .i64 0, .int .i64 0] := by
    have := Blk.new (w.alloc (.cells #[.int .i64 0] 3)) 133 #[.int .i64 0, .int .i64 0]
    rwa [World.size_alloc] at this
  refine (as_joinWf e m hat v j (w.heap.size + 1) n ad _ (.int .i64 0) (.int .i64 0) _ hb h0 h1 ((hg.alloc _).alloc _) ?_ (by omega)).mono fun ev w' ⟨he, hb', hu'⟩ => ⟨he, hb', (((Upd.refl _ _).alloc _).alloc _).trans hu'⟩
  exact ((Blk.new _ _ _).alloc _).cell 0
theorem codeStr (v : Value) (w : World) (hG : GoodG w) :
    Calls Tryd.prog 31 #[.iface 125 v] w fun ev w' => ev = .returned (.int .i64 1) ∧ Upd [] [] w w' := by
  refine code_none _ _ _ (errorsAsErrno_of _ _ _ _ ((hG.alloc _).alloc _) false _ ?_)
  exact (as_strErrno v (w.heap.size + 1) _ _).mono fun ev w' ⟨he, hu'⟩ => ⟨he, (((Upd.refl _ _).alloc _).alloc _).trans hu'⟩
end Go.Proofs.YtchlceolccfdhaaDoor
