/- A range over a function whose rounds may leave it by 'return'. No program in sight. -/
import Derived.Test.YtdmmpcdilkcfjaaIn
import Derived.Test.YtdmmpcdilkcfjaaBase3
import Derived.Lib.Hide
namespace Agio
open Go Go.RowKit

theorem Upd.wide {a b F : List Nat} {w w' : World} (h : Upd a b w w') (ha : ∀ k ∈ a, k ∈ F) : Upd F F w w' :=
  ⟨h.os, h.tape, h.output, h.size, fun i hi hn => h.block i hi fun hm => hn (ha _ hm), fun _ hi => .inl hi⟩
/-- A block that bears no cells is none of a row's. -/
theorem own_not_obj {e : TypeId} {size : Nat} {w : World} {A : Option Addr} {n c : Nat} {xs : List Value} (h : Agio.Own e size w A n c xs) {g : Nat} {o : Obj} (hg : w.heap[g]? = some o) (ho : o.isCells = false) : g ∉ ablk A := by
  intro hm
  rcases h.2 with ⟨hv, _⟩ | ⟨g', cap, cur, hv, _, hh, _⟩
  · injection hv with hA; subst hA; simp [ablk] at hm
  · injection hv with hA; subst hA
    have : g = g' := by simpa [ablk] using hm
    subst this
    rw [hh] at hg
    injection hg with hg
    subst hg
    cases ho
theorem upd_putObj (w : World) (l : Nat) (o : Obj) : Upd [l] [l] w (w.putObj l o) := (Upd.refl [l] w).grown (grownBy_putObj' w l o) (fun k e => by cases e; exact .inl (by simp))
/-- The record of a loop over a function, with a jump that is pending. -/
def lrecJ (fn : FuncId) (tmps : Array Value) (ps : Array Tmp) (assign body : Code) (D : Nat) (st : LoopState) (pe : Option Code) : Obj := .loop { state := st, pending := pe, fn := fn, tmps := tmps, params := ps, assign := assign, body := body, defers := D }
/-- The record of a loop, by its state and its jump. -/
abbrev Rec := LoopState → Option Code → Obj
/-- A loop over a function whose rounds go on, or leave it by 'return'. -/
theorem range_leave {n : Nat} {P : Program} {g : Operand} {ps : Array Tmp} {assign body : Code} {Q : Exit → Act → World → Prop} {a : Act} {w : World} {gf : Nat} {lb : Array Value}
    (hg : a.eval g = .func (.func gf) #[] lb) (eg : ∀ args w, (callFunc gf args).run P w = .ok (.enter gf args) w)
    (h : ∀ (fn : FuncId) (rec : Rec), Hid (rec = fun st pe => lrecJ fn a.tmps ps assign body w.heap.size st pe) → CallsIn Fence.wide (n - 1) P gf (#[.func (.yield (w.heap.size + 1)) #[] #[]] ++ lb) ((w.alloc (.deferred (some []))).alloc (rec .ready none))
      (fun e w2 => (∃ v, e = .returned v) ∧
        ((w2.heap[w.heap.size + 1]? = some (rec .ready none) ∧
          Q .normal { a with defers := { target := .collected w.heap.size, args := #[] } :: a.defers } (w2.putObj (w.heap.size + 1) (rec .exhausted none))) ∨
        (w2.heap[w.heap.size + 1]? = some (rec .done (some .ret)) ∧
          Code.ret.wpIn Fence.wide n P Q { a with defers := { target := .collected w.heap.size, args := #[] } :: a.defers } (w2.putObj (w.heap.size + 1) (rec .exhausted (some .ret))))))) :
    (Code.rangeFunc g ps assign body).wpIn Fence.wide n P Q a w := by
  refine wpIn_rangeFunc ?_
  intro fn hfn
  refine ⟨w.heap.size + 1, [{ target := .collected w.heap.size, args := #[] }], (w.alloc (.deferred (some []))).alloc (lrecJ fn a.tmps ps assign body w.heap.size .ready none),
    { target := .fn (.func gf) lb, args := #[.func (.yield (w.heap.size + 1)) #[] #[]] }, (w.alloc (.deferred (some []))).alloc (lrecJ fn a.tmps ps assign body w.heap.size .ready none), gf,
    #[.func (.yield (w.heap.size + 1)) #[] #[]] ++ lb, (w.alloc (.deferred (some []))).alloc (lrecJ fn a.tmps ps assign body w.heap.size .ready none), ?_, ?_, fun _ _ => trivial, ?_, fun h => (by cases h), ?_⟩
  · exact run_enterLoop_outer _ _ _ _ _
  · simp only [resolve, hg]
    simp [go_sem]
  · simp [invoke, go_sem, eg]
  · refine (h fn _ (Go.Lib.hid rfl)).mono ?_
    rintro e w2 ⟨⟨v, rfl⟩, ⟨hl, hq⟩ | ⟨hl, hq⟩⟩
    · exact ⟨none, _, run_endLoop hl (by simp), hq⟩
    · exact ⟨some .ret, _, run_endLoop hl (by simp), hq⟩
theorem rec_cells {fn : FuncId} {tmps : Array Value} {ps : Array Tmp} {assign body : Code} {D : Nat} {rec : Rec} (h : Hid (rec = fun st pe => lrecJ fn tmps ps assign body D st pe)) (st : LoopState) (pe : Option Code) : (rec st pe).isCells = false := by
  rw [h.out]; rfl
/-- One round of it. -/
theorem yield_leave {N : Nat} {P : Program} {l : Nat} {fn : FuncId} {tmps : Array Value} {ps : Array Tmp} {assign body : Code} {D : Nat} {args : Array Value} {W : World} {R Rx : World → Prop} {rec : Rec}
    (hr : Hid (rec = fun st pe => lrecJ fn tmps ps assign body D st pe)) (hl : W.heap[l]? = some (rec .ready none)) (hps : args.size = ps.size)
    (h : assign.wpIn (Fence.wide.inRound l) N P (Exit.then (fun a1 w1 => w1.heap[l]? = some (rec .ready none) ∧
        body.wpIn (Fence.wide.inRound l) N P (fun e _ w => w.heap[l]? = some (rec .busy none) ∧
          ((e = .normal ∧ R (w.putObj l (rec .ready none))) ∨ (e = .ret ∧ Rx (w.putObj l (rec .done (some .ret)))))) a1 (w1.putObj l (rec .busy none))) (fun _ _ _ => False))
      { tmps := (ps.zip args).foldl (fun t (p, v) => t.setIfInBounds p v) tmps, defers := [] } W) :
    YieldAt Fence.wide N P l args W (fun e W' => (e = .returned (.bool true) ∧ R W') ∨ (e = .returned (.bool false) ∧ Rx W')) := by
  obtain rfl := hr.out
  refine ⟨fn, _, assign, body, run_yield hl hps, roundIn_of_wpIn trivial (wpIn_mono h ?_)⟩
  intro e a1 w1 he
  cases e with
  | normal =>
    obtain ⟨h1, h2⟩ := he
    refine ⟨_, run_beginRound h1 rfl, wpIn_mono h2 ?_⟩
    rintro e a w ⟨h3, ⟨rfl, h4⟩ | ⟨rfl, h4⟩⟩
    · exact ⟨_, _, run_endRound none h3, .inl ⟨rfl, h4⟩⟩
    · exact ⟨_, _, run_endRound (some .ret) h3, .inr ⟨rfl, h4⟩⟩
  | ret => exact he
  | exit id => exact he
  | goto t => exact he
  | panic c => exact he
  | outgrown => exact he
end Agio
