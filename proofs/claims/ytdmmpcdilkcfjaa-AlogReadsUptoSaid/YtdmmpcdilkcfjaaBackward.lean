/- slices.Backward over records: an iterator whose rounds may leave it. -/
import Derived.Test.YtdmmpcdilkcfjaaAlog5
import Derived.Test.YtdmmpcdilkcfjaaIn2
namespace Go.Proofs.Ytdmmpcdilkcfjaa
open Go.RowKit Agio
attribute [local go_sem] Oper.semAt_some

/-- The rounds over a list from its end on: J m: the places from m on were gone through; Jx m: it was left at m. -/
structure RoundsB (N L : Nat) (l : List Rv) (J Jx : Nat → List Nat → World → Prop) : Prop where
  still : ∀ {m fp W W' b}, J m fp W → Upd [] b W W' → J m fp W'
  turn : ∀ m (hm : m < l.length) fp W, J (m + 1) fp W →
    YieldAt Fence.wide N Try.prog L #[.int .i64 (m : Int), .agg #[.int .i64 l[m].k, .int .i64 l[m].s, .int .i64 l[m].r, .int .i64 l[m].t, .slice l[m].A l[m].n l[m].c]] W fun e W' =>
      (e = .returned (.bool true) ∧ ∃ fp', J m fp' W' ∧ Upd fp fp' W W') ∨ (e = .returned (.bool false) ∧ ∃ fp', Jx m fp' W' ∧ Upd fp fp' W W')

theorem backSeq (w : World) (A : Option Addr) (n c : Nat) : Calls Try.prog 61 #[.slice A n c] w fun e w' =>
    ∃ g, e = .returned (.func (.func 89) #[] #[.pointer (some ⟨g, 0, none⟩)]) ∧ Blk w' g 61 #[.slice A n c] ∧ Upd [] [] w w' := by
  go_enter Try.func61, Try.ntmps61
  repeat' ((fail_if_success (with_reducible refine stop_append rfl ?_)); (fail_if_success (with_reducible refine stop_copy rfl ?_)); first | go_values | go_skip | go_guarded | go_step | go_upon | (simp only []; go_at_K))
  go_ret
  exact ⟨_, rfl, Blk.new _ _ _, (Upd.refl _ _).alloc _⟩

set_option maxRecDepth 100000 in
set_option maxHeartbeats 2000000 in
theorem backEach (N L : Nat) (w0 w : World) (Bb : Nat) (A : Option Addr) (n c : Nat) (hB : Blk w Bb 61 #[.slice A n c]) (l : List Rv) (hr : Rvs w0 A n l) (hl : l.length ≤ 1000000)
    (J Jx : Nat → List Nat → World → Prop) (hJ : RoundsB (N - 1) L l J Jx) (fp : List Nat) (h0 : J l.length fp w) (U0 : Upd [] fp w0 w) (hBf : Bb ∉ fp) :
    CallsIn Fence.wide N Try.prog 89 #[.func (.yield L) #[] #[], .pointer (some ⟨Bb, 0, none⟩)] w fun e w' => (∃ v, e = .returned v) ∧
      ((∃ fp', J 0 fp' w' ∧ Upd fp fp' w w') ∨ (∃ m fp', m < l.length ∧ Jx m fp' w' ∧ Upd fp fp' w w')) := by
  have q := hB.cell 0
  simp only [List.getElem?_toArray, List.getElem?_cons_zero] at q
  have hn := hr.len
  subst hn
  have hlt := hB.lt
  refine callsIn_of_wp Try.func89 rfl trivial ?_
  simp only [Try.ntmps89, List.size_toArray, List.length_cons, List.length_nil, Nat.reduceAdd, Nat.reduceSub, Array.replicate_succ, Array.replicate_zero, List.push_toArray, List.append_toArray, List.nil_append, List.cons_append]
  have hw0 : IntKind.i64.wrap ((l.length : Int) - 1) = (l.length : Int) - 1 := by rw [IntKind.wrap_i64]; omega
  repeat' ((fail_if_success (with_reducible refine istop_append rfl ?_)); first | go_values | gi_guarded | gi_step | gi_upon | (simp only []; go_at_K))
  gi_loopw [3] (fun v3 wr => ∃ (m : Nat) (fp' : List Nat), m ≤ l.length ∧ v3 = .int .i64 ((m : Int) - 1) ∧ J m fp' wr ∧ Upd fp fp' w wr)
    (fun v3 _ => (intOf v3 + 1).toNat)
  case atStart => exact ⟨l.length, fp, by omega, rfl, h0, Upd.refl _ _⟩
  case round =>
    clear h0 q hw0
    obtain ⟨m, fp', hm, rfl, hJm, U⟩ := hrel
    have hBr := hB.upd U hBf
    have q := hBr.cell 0
    simp only [List.getElem?_toArray, List.getElem?_cons_zero] at q
    cases m with
    | zero =>
      have hng : decide ((0 : Int) ≤ ((0 : Nat) : Int) - 1) = false := decide_eq_false (by omega)
      repeat' ((fail_if_success (with_reducible refine istop_append rfl ?_)); first | go_values | gi_guarded | gi_step | gi_upon | (simp only []; go_at_K))
      go_end0
      exact ⟨⟨_, rfl⟩, .inl ⟨fp', hJm, U⟩⟩
    | succ m =>
      have hg : decide ((0 : Int) ≤ ((m + 1 : Nat) : Int) - 1) = true := decide_eq_true (by omega)
      have hm1 : ((m + 1 : Nat) : Int) - 1 = (m : Int) := by omega
      rw [hm1] at hg ⊢
      have hml : m < l.length := by omega
      have hmi : (m : Int) < (l.length : Int) := by omega
      have hw1 : IntKind.i64.wrap ((m : Int) - 1) = (m : Int) - 1 := by rw [IntKind.wrap_i64]; omega
      obtain ⟨ad, hA, p0, p1, p2, p3, p4⟩ := (hr.upd (U0.trans U)).at_ hml
      subst hA
      obtain ⟨fn, tmps, assign, body, hy, hR⟩ := hJ.turn m hml fp' _ hJm
      clear hJm hr hB
      repeat' ((fail_if_success (with_reducible refine istop_append rfl ?_)); first | go_values | gi_guarded | gi_step | gi_upon | (simp only []; go_at_K))
      refine ⟨fun h => (by cases h), hR.mono ?_⟩
      rintro e w3 (⟨rfl, fp3, J3, hu3⟩ | ⟨rfl, fp3, J3, hu3⟩)
      · have U3 := U.trans hu3
        clear hy hR U hu3 p0 p1 p2 p3 p4 hBr q
        repeat' ((fail_if_success (with_reducible refine istop_append rfl ?_)); first | go_values | gi_guarded | gi_step | gi_upon | (simp only []; go_at_K))
        go_roundw
        case rel => exact ⟨m, fp3, by omega, rfl, J3, U3⟩
        case measure => simp [intOf]
      · have U3 := U.trans hu3
        clear hy hR U hu3 p0 p1 p2 p3 p4 hBr q
        repeat' ((fail_if_success (with_reducible refine istop_append rfl ?_)); first | go_values | gi_guarded | gi_step | gi_upon | (simp only []; go_at_K))
        refine bodyPost_ret (results_none rfl _ _ _) rfl ?_
        exact ⟨⟨_, rfl⟩, .inr ⟨m, fp3, hml, J3, U3⟩⟩
end Go.Proofs.Ytdmmpcdilkcfjaa
