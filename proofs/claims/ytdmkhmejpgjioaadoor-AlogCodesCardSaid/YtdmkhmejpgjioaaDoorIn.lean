/- Inside a fence (a range over a function): append, and the marks at which a walk stops. No program in sight. -/
import Derived.Test.YtdmkhmejpgjioaaDoorBase2
import Derived.RangeFuncNested
import Derived.RangeFuncBound
import Derived.RangeFuncCalls
import Derived.RangeFuncLeaves
import Derived.OwnWalkIn
import Derived.TacticsInMore
import Derived.LoopNIn
import Derived.LoopIn
set_option linter.all false
namespace Agio
open Go Go.RowKit

theorem wpListIn_app {F : Fence} {N : Nat} {P : Program} (w : World) {ops : Array Oper} {rest : List Oper} {o : Oper} {a : Act} {Q : Exit → Act → World → Prop} (hgd : o.guard = none) (s x : Operand) (t : TypeId)
    (ho : o.op = .call { callee := .builtin .append, args := #[s, x], argTypes := #[t, t] })
    (e : TypeId) {z : Value} {size bytes : Nat} (ht : P.underlying t = some (.slice e)) (hi : (P.info? e).map (fun i => (i.zero, i.size, i.bytes)) = some (some z, size, bytes))
    (hzs : z.cells.size = size) (hsz : 0 < size)
    {A0 : Option Addr} {n c0 : Nat} {xs : List Value} (hown : Own e size w A0 n c0 xs) (hs : a.eval s = .slice A0 n c0)
    {A : Option Addr} {m c : Nat} {news : List Value} (hr : Rd w size A m news) (hx : a.eval x = .slice A m c) (h1 : ∀ u ∈ news, u.oneCell' = true)
    (h63 : n + m ≤ maxLen) (hbytes : (n + m) * bytes ≤ 140737488355328)
    (h : ∀ A' c' w', Own e size w' A' (n + m) c' (xs ++ news) → Upd (ablk A0) (ablk A') w w' → wpListIn F N P ops Q rest (a.put o.dst (.slice A' (n + m) c')) w') : wpListIn F N P ops Q (o :: rest) a w := by
  refine wpListIn_plain hgd fun K hK => ?_
  obtain ⟨A', c', w', hrun, h2, h3⟩ := run_app (P := P) w t o.type e ht hi hzs hsz A0 n c0 xs hown A m c news hr h1 h63 hbytes
  unfold Oper.wpIn
  refine ⟨?_, ?_⟩
  · simp [Oper.about, ho, resolve, Target.leads, Sem.run_pure]
  · rw [Oper.semAt_plain F _ _ (by rw [ho]; intro c hc'; cases hc')]
    simp [execOp, ho, resolve, invoke, builtin, hs, hx, hrun, Result.andThen]
    exact hK _ _ (h A' c' w' h2 h3)
theorem wpListIn_push {F : Fence} {N : Nat} {P : Program} {w : World} {ops : Array Oper} {rest : List Oper} {o : Oper} {a : Act} {Q : Exit → Act → World → Prop} (hgd : o.guard = none) (s x : Operand) (t : TypeId)
    (ho : o.op = .call { callee := .builtin .append, args := #[s, x], argTypes := #[t, t] })
    (e : TypeId) {z : Value} {size bytes : Nat} (ht : P.underlying t = some (.slice e)) (hi : (P.info? e).map (fun i => (i.zero, i.size, i.bytes)) = some (some z, size, bytes))
    (hzs : z.cells.size = size) (hsz : 0 < size)
    {A0 : Option Addr} {n c0 : Nat} {xs : List Value} (hown : Own e size w A0 n c0 xs) (hs : a.eval s = .slice A0 n c0)
    (H : Nat) (hH : H = w.heap.size) {m c : Nat} {news : List Value} (hx : a.eval x = .slice (some ⟨H, 0, none⟩) m c) (hl : news.length = m * size) (h1 : news.all (·.oneCell') = true)
    (h63 : n + m ≤ maxLen) (hbytes : (n + m) * bytes ≤ 140737488355328)
    (h : ∀ A' c' w', Own e size w' A' (n + m) c' (xs ++ news) → Upd (ablk A0) (ablk A') w w' → wpListIn F N P ops Q rest (a.put o.dst (.slice A' (n + m) c')) w') : wpListIn F N P ops Q (o :: rest) a (w.alloc (.cells news.toArray e)) := by
  subst hH
  exact wpListIn_app _ hgd s x t ho e ht hi hzs hsz (hown.alloc _) hs (Rd.blk (Blk.new _ _ _) hl) hx (by simpa using h1) h63 hbytes
    fun A' c' w' h2 h3 => h A' c' w' h2 (((Upd.refl (ablk A0) w).alloc _).trans h3)
theorem istop_append {F : Fence} {N : Nat} {P : Program} {ops : Array Oper} {rest : List Oper} {o : Oper} {a : Act} {Q : Exit → Act → World → Prop} {w : World} {x y : Operand} {t t' : TypeId}
    (_ : o.op = .call { callee := .builtin .append, args := #[x, y], argTypes := #[t, t'] }) (h : wpListIn F N P ops Q (o :: rest) a w) : wpListIn F N P ops Q (o :: rest) a w := h

theorem alloc2_new (w : World) (o o' : Obj) : ((w.alloc o).alloc o').heap[w.heap.size + 1]? = some o' := by
  have := World.alloc_heap_new (w.alloc o) o'
  rwa [World.size_alloc] at this
theorem alloc2_old (w : World) (o o' : Obj) : ((w.alloc o).alloc o').heap[w.heap.size]? = some o := (Below.heap_alloc _ _ _ (by simp)).trans (World.alloc_heap_new w o)
/-- The record of a loop over a function. -/
def lrec (fn : FuncId) (tmps : Array Value) (ps : Array Tmp) (assign body : Code) (D : Nat) (st : LoopState) : Obj := .loop { state := st, pending := none, fn := fn, tmps := tmps, params := ps, assign := assign, body := body, defers := D }
/-- A loop over a function whose rounds never leave it: what is owed is the function's call. -/
theorem range_whole {n : Nat} {P : Program} {g : Operand} {ps : Array Tmp} {assign body : Code} {Q : Exit → Act → World → Prop} {a : Act} {w : World} {gf : Nat} {lb : Array Value}
    (hg : a.eval g = .func (.func gf) #[] lb) (eg : ∀ args w, (callFunc gf args).run P w = .ok (.enter gf args) w)
    (h : ∀ fn, CallsIn Fence.wide (n - 1) P gf (#[.func (.yield (w.heap.size + 1)) #[] #[]] ++ lb) ((w.alloc (.deferred (some []))).alloc (lrec fn a.tmps ps assign body w.heap.size .ready))
      (fun e w2 => (∃ v, e = .returned v) ∧ w2.heap[w.heap.size + 1]? = some (lrec fn a.tmps ps assign body w.heap.size .ready) ∧
        Q .normal { a with defers := { target := .collected w.heap.size, args := #[] } :: a.defers } (w2.putObj (w.heap.size + 1) (lrec fn a.tmps ps assign body w.heap.size .exhausted)))) :
    (Code.rangeFunc g ps assign body).wpIn Fence.wide n P Q a w := by
  refine wpIn_rangeFunc ?_
  intro fn hfn
  refine ⟨w.heap.size + 1, [{ target := .collected w.heap.size, args := #[] }], (w.alloc (.deferred (some []))).alloc (lrec fn a.tmps ps assign body w.heap.size .ready),
    { target := .fn (.func gf) lb, args := #[.func (.yield (w.heap.size + 1)) #[] #[]] }, (w.alloc (.deferred (some []))).alloc (lrec fn a.tmps ps assign body w.heap.size .ready), gf,
    #[.func (.yield (w.heap.size + 1)) #[] #[]] ++ lb, (w.alloc (.deferred (some []))).alloc (lrec fn a.tmps ps assign body w.heap.size .ready), ?_, ?_, fun _ _ => trivial, ?_, fun h => (by cases h), ?_⟩
  · exact run_enterLoop_outer _ _ _ _ _
  · simp only [resolve, hg]
    simp [go_sem]
  · simp [invoke, go_sem, eg]
  · refine (h fn).mono ?_
    rintro e w2 ⟨⟨v, rfl⟩, hl, hq⟩
    exact ⟨none, _, run_endLoop hl (by simp), hq⟩
/-- One round of it. -/
theorem yield_round {N : Nat} {P : Program} {l : Nat} {fn : FuncId} {tmps : Array Value} {ps : Array Tmp} {assign body : Code} {D : Nat} {args : Array Value} {W : World} {R : World → Prop}
    (hl : W.heap[l]? = some (lrec fn tmps ps assign body D .ready)) (hps : args.size = ps.size)
    (h : assign.wpIn (Fence.wide.inRound l) N P (Exit.then (fun a1 w1 => w1.heap[l]? = some (lrec fn tmps ps assign body D .ready) ∧
        body.wpIn (Fence.wide.inRound l) N P (fun e _ w => e = .normal ∧ w.heap[l]? = some (lrec fn tmps ps assign body D .busy) ∧ R (w.putObj l (lrec fn tmps ps assign body D .ready))) a1 (w1.putObj l (lrec fn tmps ps assign body D .busy))) (fun _ _ _ => False))
      { tmps := (ps.zip args).foldl (fun t (p, v) => t.setIfInBounds p v) tmps, defers := [] } W) :
    YieldAt Fence.wide N P l args W (fun e W' => e = .returned (.bool true) ∧ R W') := by
  refine ⟨fn, _, assign, body, run_yield hl hps, roundIn_of_wpIn trivial (wpIn_mono h ?_)⟩
  intro e a1 w1 he
  cases e with
  | normal =>
    obtain ⟨h1, h2⟩ := he
    refine ⟨_, run_beginRound h1 rfl, wpIn_mono h2 ?_⟩
    rintro e a w ⟨rfl, h3, h4⟩
    exact ⟨_, _, run_endRound none h3, rfl, h4⟩
  | ret => exact he
  | exit id => exact he
  | goto t => exact he
  | panic c => exact he
  | outgrown => exact he
end Agio
