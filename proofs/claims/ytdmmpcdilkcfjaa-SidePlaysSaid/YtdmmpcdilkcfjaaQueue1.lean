/- A queue in memory; the iterator over its items. -/
import Derived.Test.YtdmmpcdilkcfjaaChecked
import Derived.Test.YtdmmpcdilkcfjaaIn2
import Derived.Test.YtdmmpcdilkcfjaaStructs
import Derived.Test.YtdmmpcdilkcfjaaPlainQueue
namespace Go.Proofs.Ytdmmpcdilkcfjaa
open Go.RowKit Agio
attribute [local go_sem] Oper.semAt_some

abbrev Itm := Int × Int
def itC (x : Itm) : List Value := [.int .i64 x.1, .int .i64 x.2]
theorem itC_len (x : Itm) : (itC x).length = 2 := rfl
theorem itC_one (l : Its) : ∀ u ∈ l.flatMap itC, u.oneCell' = true := by
  intro u hu
  obtain ⟨x, _, hx⟩ := List.mem_flatMap.1 hu
  simp only [itC, List.mem_cons, List.not_mem_nil, or_false] at hx
  rcases hx with rfl | rfl <;> rfl
theorem infoItm : (Try.prog.info? 99).map (fun i => (i.zero, i.size, i.bytes)) = some (some (.agg #[.int .i64 0, .int .i64 0]), 2, 16) := by kernel_rfl

/-- What holds of a queue's items. -/
structure Qok (l : Its) : Prop where
  ids : (l.map Prod.fst).Nodup
  each : ∀ x ∈ l, 1 ≤ x.2 ∧ x.2 ≤ 1073741824
  len : l.length ≤ 256
/-- A queue. -/
structure QuS (w : World) (g : Nat) (A : Option Addr) (n c : Nat) (l : Its) : Prop where
  blk : Blk w g 139 #[.slice A n c]
  row : Agio.Own 99 2 w A n c (l.flatMap itC)
  len : n = l.length
  ok : Qok l
def fpQ (g : Nat) (A : Option Addr) : List Nat := g :: ablk A
section
variable {w w' : World} {g : Nat} {A : Option Addr} {n c : Nat} {l : Its}
theorem QuS.upd {a b : List Nat} (h : QuS w g A n c l) (hu : Upd a b w w') (hd : ∀ k ∈ fpQ g A, k ∉ a) : QuS w' g A n c l :=
  ⟨h.blk.upd hu (hd g (by simp [fpQ])), h.row.upd hu (fun k hk => hd k (by simp [fpQ, hk])), h.len, h.ok⟩
theorem QuS.upd0 {b : List Nat} (h : QuS w g A n c l) (hu : Upd [] b w w') : QuS w' g A n c l := h.upd hu (by simp)
theorem QuS.lt (h : QuS w g A n c l) : ∀ k ∈ fpQ g A, k < w.heap.size := by
  intro k hk
  rcases List.mem_cons.1 hk with rfl | hk
  · exact h.blk.lt
  · exact h.row.lt k hk
theorem QuS.rd (h : QuS w g A n c l) : RdS itC 2 w A n l := ⟨h.len, h.row.rd⟩
theorem QuS.out (h : QuS w g A n c l) : g ∉ ablk A := h.row.ne h.blk (by decide)
end
/-- A queue, or none. -/
def QuV (w : World) (v : Value) (l : Its) (B : Nat) : Prop := (v = .pointer none ∧ l = []) ∨ ∃ g A n c, v = .pointer (some ⟨g, 0, none⟩) ∧ QuS w g A n c l ∧ ∀ k ∈ fpQ g A, k < B
theorem QuS.val {w : World} {g : Nat} {A : Option Addr} {n c : Nat} {l : Its} (h : QuS w g A n c l) : QuV w (.pointer (some ⟨g, 0, none⟩)) l w.heap.size := .inr ⟨g, A, n, c, rfl, h, h.lt⟩
theorem QuV.upd {w w' : World} {v : Value} {l : Its} {B : Nat} {a b : List Nat} (h : QuV w v l B) (hu : Upd a b w w') (ha : ∀ k ∈ a, B ≤ k) : QuV w' v l B := by
  rcases h with h | ⟨g, A, n, c, rfl, h, hB⟩
  · exact .inl h
  · exact .inr ⟨g, A, n, c, rfl, h.upd hu (fun k hk hm => by have := hB k hk; have := ha k hm; omega), hB⟩
theorem QuV.upd0 {w w' : World} {v : Value} {l : Its} {B : Nat} {b : List Nat} (h : QuV w v l B) (hu : Upd [] b w w') : QuV w' v l B := h.upd hu (by simp)
theorem QuV.len {w : World} {v : Value} {l : Its} {B : Nat} (h : QuV w v l B) : l.length ≤ 256 := by
  rcases h with ⟨_, rfl⟩ | ⟨g, A, n, c, rfl, h, _⟩
  · simp
  · exact h.ok.len

/-- What the rounds of a loop over a queue keep, and what they turn: blocks of the loop's own alone. -/
structure RoundsQ (N l B : Nat) (all : Its) (J : Its → List Nat → World → Prop) (Jx : Its → Itm → List Nat → World → Prop) : Prop where
  still : ∀ {pre fp W W' b}, J pre fp W → Upd [] b W W' → J pre fp W'
  stillx : ∀ {pre x fp W W' b}, Jx pre x fp W → Upd [] b W W' → Jx pre x fp W'
  alien : ∀ {pre fp W}, J pre fp W → ∀ k ∈ fp, B ≤ k
  turn : ∀ pre x fp W, J pre fp W → (∃ r, all = pre ++ x :: r) →
    YieldAt Fence.wide N Try.prog l #[.int .i64 (pre.length : Int), .agg #[.int .i64 x.1, .int .i64 x.2]] W fun e W' =>
      (e = .returned (.bool true) ∧ ∃ fp', J (pre ++ [x]) fp' W' ∧ Upd fp fp' W W') ∨ (e = .returned (.bool false) ∧ ∃ fp', Jx pre x fp' W' ∧ Upd fp fp' W W')

theorem queueAll (w : World) (v : Value) (hv : v = .pointer none ∨ ∃ g, v = .pointer (some ⟨g, 0, none⟩)) :
    Calls Try.prog 65 #[v] w fun e w' => ∃ g, e = .returned (.func (.func 93) #[] #[.pointer (some ⟨g, 0, none⟩)]) ∧ Blk w' g 96 #[v] ∧ Upd [] [] w w' := by
  rcases hv with rfl | ⟨g, rfl⟩
  all_goals
    go_enter Try.func65, Try.ntmps65
    repeat' ((fail_if_success (with_reducible refine stop_append rfl ?_)); (fail_if_success (with_reducible refine stop_copy rfl ?_)); first | go_values | go_skip | go_guarded | go_step | go_upon | (simp only []; go_at_K))
    go_ret
    exact ⟨_, rfl, Blk.new _ _ _, (Upd.refl _ _).alloc _⟩

set_option maxRecDepth 100000 in
set_option maxHeartbeats 2000000 in
theorem queueEach (N L : Nat) (w : World) (Bb : Nat) (v : Value) (hB : Blk w Bb 96 #[v]) (l : Its) (B : Nat) (hv : QuV w v l B)
    (J : Its → List Nat → World → Prop) (Jx : Its → Itm → List Nat → World → Prop) (hJ : RoundsQ (N - 1) L B l J Jx) (fp : List Nat) (h0 : J [] fp w) :
    CallsIn Fence.wide N Try.prog 93 #[.func (.yield L) #[] #[], .pointer (some ⟨Bb, 0, none⟩)] w fun e w' => (∃ v, e = .returned v) ∧
      ((∃ fp', J l fp' w' ∧ Upd fp fp' w w') ∨ (∃ pre x r fp', l = pre ++ x :: r ∧ Jx pre x fp' w' ∧ Upd fp fp' w w')) := by
  have q := hB.cell 0
  simp only [List.getElem?_toArray, List.getElem?_cons_zero] at q
  refine callsIn_of_wp Try.func93 rfl trivial ?_
  simp only [Try.ntmps93, List.size_toArray, List.length_cons, List.length_nil, Nat.reduceAdd, Nat.reduceSub, Array.replicate_succ, Array.replicate_zero, List.push_toArray, List.append_toArray, List.nil_append, List.cons_append]
  rcases hv with ⟨rfl, rfl⟩ | ⟨g, A, n, c, rfl, h, hlt⟩
  · repeat' ((fail_if_success (with_reducible refine istop_append rfl ?_)); first | go_values | gi_guarded | gi_step | gi_upon | (simp only []; go_at_K))
    refine bodyPost_ret (results_none rfl _ _ _) rfl ?_
    exact ⟨⟨_, rfl⟩, .inl ⟨fp, h0, Upd.refl _ _⟩⟩
  · obtain rfl := h.len
    have q2 := h.blk.cell 0
    simp only [List.getElem?_toArray, List.getElem?_cons_zero] at q2
    have hle := h.ok.len
    clear hB
    repeat' ((fail_if_success (with_reducible refine istop_append rfl ?_)); first | go_values | gi_guarded | gi_step | gi_upon | (simp only []; go_at_K))
    gi_loopw [12] (fun v12 wr => ∃ (i : Nat) (pre r : Its) (fp' : List Nat), l = pre ++ r ∧ pre.length = i ∧ v12 = .int .i64 (i : Int) ∧ J pre fp' wr ∧ Upd fp fp' w wr ∧ QuS wr g A l.length c l)
      (fun v12 _ => l.length - (intOf v12).toNat)
    case atStart => exact ⟨0, [], l, fp, rfl, rfl, rfl, h0, Upd.refl _ _, h⟩
    case round =>
      clear h q q2
      obtain ⟨i, pre, r, fp', hl, hi, rfl, hJp, U, h⟩ := hrel
      cases r with
      | nil =>
        have hni : ¬ ((i : Int) < (l.length : Int)) := by rw [hl]; simp; omega
        repeat' ((fail_if_success (with_reducible refine istop_append rfl ?_)); first | go_values | gi_guarded | gi_step | gi_upon | (simp only []; go_at_K))
        go_end0
        exact ⟨⟨_, rfl⟩, .inl ⟨fp', by rw [hl]; simpa using hJp, U⟩⟩
      | cons x r =>
        have hil : i < l.length := by rw [hl]; simp; omega
        have hii : (i : Int) < (l.length : Int) := by omega
        obtain ⟨ad, rfl, p0', p1'⟩ := RdS.at_ itC_len h.rd hil
        have hxi : l[i] = x := by
          have : l[i]? = some x := by rw [hl, List.getElem?_append_right (by omega), hi]; simp
          rw [List.getElem?_eq_getElem hil] at this
          injection this
        rw [hxi] at p0' p1'
        have p0 := p0' _ rfl
        have p1 := p1' 1 _ (by omega) rfl
        clear p0' p1' hxi
        have J2 := hJ.still hJp ((Upd.refl [] wr).alloc (.cells #[.int .i64 x.1, .int .i64 x.2] 99))
        have U2 : Upd fp fp' w (wr.alloc (.cells #[.int .i64 x.1, .int .i64 x.2] 99)) := U.alloc _
        have h2 := h.upd0 ((Upd.refl [] wr).alloc (.cells #[.int .i64 x.1, .int .i64 x.2] 99))
        obtain ⟨fn, tmps, assign, body, hy, hR⟩ := hJ.turn pre x fp' _ J2 ⟨r, hl⟩
        rw [hi] at hy
        have hw1 : wrap64 ((i : Int) + 1) = (i : Int) + 1 := by unfold wrap64; omega
        have HW := Lib.hid hw1
        have HL := Lib.hid hl
        clear hw1 hl hJp h U
        repeat' ((fail_if_success (with_reducible refine istop_append rfl ?_)); first | go_values | gi_guarded | gi_step | gi_upon | (simp only []; go_at_K))
        refine ⟨fun h => (by cases h), hR.mono ?_⟩
        have hal := fun pre fp W h k hk => hJ.alien (pre := pre) (fp := fp) (W := W) h k hk
        rintro e w3 (⟨rfl, fp3, J3, hu3⟩ | ⟨rfl, fp3, J3, hu3⟩)
        · have h3 := h2.upd hu3 (fun k hk hm => by have := hlt k hk; have := hal _ _ _ J2 k hm; omega)
          have U3 := U2.trans hu3
          clear hy hR J2 U2 h2 hu3 p0 p1
          repeat' ((fail_if_success (with_reducible refine istop_append rfl ?_)); first | go_values | gi_guarded | gi_step | gi_upon | (simp only []; go_at_K))
          go_roundw
          case rel => exact ⟨i + 1, pre ++ [x], r, fp3, by rw [HL.out]; simp, by simp [hi], by simp, J3, U3, h3⟩
          case measure => simp [intOf]; omega
        · have U3 := U2.trans hu3
          clear hy hR J2 U2 h2 hu3 p0 p1
          repeat' ((fail_if_success (with_reducible refine istop_append rfl ?_)); first | go_values | gi_guarded | gi_step | gi_upon | (simp only []; go_at_K))
          refine bodyPost_ret (results_none rfl _ _ _) rfl ?_
          exact ⟨⟨_, rfl⟩, .inr ⟨pre, x, r, fp3, HL.out, J3, U3⟩⟩
end Go.Proofs.Ytdmmpcdilkcfjaa
