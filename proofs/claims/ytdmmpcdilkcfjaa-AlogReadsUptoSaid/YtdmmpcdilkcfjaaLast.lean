/- alog.Last: the last record of a kind about a slot. -/
import Derived.Test.YtdmmpcdilkcfjaaBackward
import Derived.Test.YtdmmpcdilkcfjaaWriter
import Derived.Shelf.Abstract
namespace Go.Proofs.Ytdmmpcdilkcfjaa
open Go.RowKit Agio
attribute [local go_sem] Oper.semAt_some

/-- The last of a list that fits. -/
def lastR (k s : Int) : List Rv → Option Rv
  | [] => none
  | x :: r => match lastR k s r with
    | some y => some y
    | none => if x.k = k ∧ x.s = s then some x else none
theorem lastR_snoc (k s : Int) (l : List Rv) (x : Rv) : lastR k s (l ++ [x]) = if x.k = k ∧ x.s = s then some x else lastR k s l := by
  induction l with
  | nil => simp [lastR]
  | cons y r ih =>
    rw [List.cons_append, lastR, ih, lastR]
    split
    · rename_i z hz
      split at hz
      · rename_i hc; rw [if_pos hc]; exact hz.symm
      · rename_i hc; rw [if_neg hc, hz]
    · rename_i hz
      split at hz
      · cases hz
      · rename_i hc; rw [if_neg hc, hz]
theorem lastR_none {k s : Int} {l : List Rv} (h : ∀ j (hj : j < l.length), ¬ (l[j].k = k ∧ l[j].s = s)) : lastR k s l = none := by
  induction l with
  | nil => rfl
  | cons x r ih =>
    rw [lastR, ih fun j hj => h (j + 1) (by simpa using hj)]
    exact if_neg (h 0 (by simp))
theorem lastR_at {k s : Int} {l : List Rv} {m : Nat} (hm : m < l.length) (h : l[m].k = k ∧ l[m].s = s) (hb : ∀ j (hj : j < l.length), m < j → ¬ (l[j].k = k ∧ l[j].s = s)) : lastR k s l = some l[m] := by
  induction l generalizing m with
  | nil => simp at hm
  | cons x r ih =>
    rw [lastR]
    cases m with
    | zero =>
      rw [lastR_none fun j hj => hb (j + 1) (by simpa using hj) (by omega)]
      exact if_pos h
    | succ m => rw [ih (m := m) (by simpa using hm) h fun j hj hmj => hb (j + 1) (by simpa using hj) (by omega)]; rfl

/-- What stands between two rounds of Last's loop. -/
structure BJ (k s : Int) (B4 B5 B6 B7 L D : Nat) (o : Obj) (x : Rv) (f : Bool) (fp : List Nat) (W : World) : Prop where
  fps : fp = [L, B6, B7]
  kind : Blk W B4 3 #[.int .i64 k]
  slot : Blk W B5 3 #[.int .i64 s]
  rec_ : Blk W B6 77 #[.int .i64 x.k, .int .i64 x.s, .int .i64 x.r, .int .i64 x.t, .slice x.A x.n x.c]
  res : Blk W B7 4 #[.bool f]
  val : OwnB 5 W x.A x.n x.c x.b
  loop : W.heap[L]? = some o
  def_ : W.heap[D]? = some (.deferred (some []))
theorem BJ.still {k s : Int} {B4 B5 B6 B7 L D : Nat} {o : Obj} {x : Rv} {f : Bool} {fp b : List Nat} {W W' : World} (h : BJ k s B4 B5 B6 B7 L D o x f fp W) (hu : Upd [] b W W') : BJ k s B4 B5 B6 B7 L D o x f fp W' :=
  ⟨h.fps, h.kind.upd hu (by simp), h.slot.upd hu (by simp), h.rec_.upd hu (by simp), h.res.upd hu (by simp), h.val.upd hu (by simp), (hu.block L (Array.getElem?_eq_some_iff.1 h.loop).1 (by simp)).trans h.loop, (hu.block D (Array.getElem?_eq_some_iff.1 h.def_).1 (by simp)).trans h.def_⟩
def rvZ : Rv := ⟨0, 0, 0, 0, none, 0, 0, []⟩

set_option maxRecDepth 100000 in
set_option maxHeartbeats 4000000 in
theorem alogLast (w : World) (A : Option Addr) (n c : Nat) (l : List Rv) (hr : Rvs w A n l) (hl : l.length ≤ 1000000) (hb : ∀ x ∈ l, x.b.length ≤ 140737488355328) (k s : Int) :
    Calls Try.prog 33 #[.slice A n c, .int .i64 k, .int .i64 s] w fun e w' =>
      (∃ x : Rv, x.rc = ((lastR k s l).getD rvZ).rc ∧ RdB w' x.A x.n x.b ∧ e = .returned (.tuple #[x.val, .bool (lastR k s l).isSome])) ∧ Upd [] [] w w' := by
  have C := fun w => backSeq w A n c
  refine (callsIn_wide (n := 3)).1 ?_
  refine callsIn_of_wp_marks Try.func33 rfl trivial ?_ rfl
  simp only [Try.ntmps33, List.size_toArray, List.length_cons, List.length_nil, Nat.reduceAdd, Nat.reduceSub, Array.replicate_succ, Array.replicate_zero, List.push_toArray, List.append_toArray, List.nil_append, List.cons_append]
  repeat' ((fail_if_success (with_reducible refine istop_append rfl ?_)); first | go_values | gi_guarded | gi_step | gi_upon | (simp only []; go_at_K))
  refine ⟨trivial, (callsIn_wide.2 (C _)).mono ?_⟩
  obtain ⟨b4, hb4⟩ : ∃ b, w.heap.size = b := ⟨_, rfl⟩
  obtain ⟨b5, hb5⟩ : ∃ b, b4 + 1 = b := ⟨_, rfl⟩
  obtain ⟨b6, hb6⟩ : ∃ b, b5 + 1 = b := ⟨_, rfl⟩
  obtain ⟨b7, hb7⟩ : ∃ b, b6 + 1 = b := ⟨_, rfl⟩
  rw [hb4, hb5, hb6, hb7]
  have M1 := Blk.new w 3 #[.int .i64 k]
  have M2 := Blk.new (w.alloc (.cells #[.int .i64 k] 3)) 3 #[.int .i64 s]
  have M3 := Blk.new ((w.alloc (.cells #[.int .i64 k] 3)).alloc (.cells #[.int .i64 s] 3)) 77 #[.int .i64 0, .int .i64 0, .int .i64 0, .int .i64 0, .slice none 0 0]
  have M4 := Blk.new (((w.alloc (.cells #[.int .i64 k] 3)).alloc (.cells #[.int .i64 s] 3)).alloc (.cells #[.int .i64 0, .int .i64 0, .int .i64 0, .int .i64 0, .slice none 0 0] 77)) 4 #[.bool false]
  simp only [World.size_alloc, hb4, hb5, hb6, hb7] at M1 M2 M3 M4
  have N1 := ((M1.alloc (.cells #[.int .i64 s] 3)).alloc (.cells #[.int .i64 0, .int .i64 0, .int .i64 0, .int .i64 0, .slice none 0 0] 77)).alloc (.cells #[.bool false] 4)
  have N2 := (M2.alloc (.cells #[.int .i64 0, .int .i64 0, .int .i64 0, .int .i64 0, .slice none 0 0] 77)).alloc (.cells #[.bool false] 4)
  have N3 := M3.alloc (.cells #[.bool false] 4)
  have hU0 : Upd [] [] w ((((w.alloc (.cells #[.int .i64 k] 3)).alloc (.cells #[.int .i64 s] 3)).alloc (.cells #[.int .i64 0, .int .i64 0, .int .i64 0, .int .i64 0, .slice none 0 0] 77)).alloc (.cells #[.bool false] 4)) := ((((Upd.refl [] w).alloc _).alloc _).alloc _).alloc _
  generalize (((w.alloc (.cells #[.int .i64 k] 3)).alloc (.cells #[.int .i64 s] 3)).alloc (.cells #[.int .i64 0, .int .i64 0, .int .i64 0, .int .i64 0, .slice none 0 0] 77)).alloc (.cells #[.bool false] 4) = w0 at *
  rintro e w1 ⟨g, rfl, hBb, hu1⟩
  have K1 := N1.upd hu1 (by simp)
  have K2 := N2.upd hu1 (by simp)
  have K3 := N3.upd hu1 (by simp)
  have K4 := M4.upd hu1 (by simp)
  have hU1 := hU0.trans hu1
  clear M1 M2 M3 M4 N1 N2 N3 hU0 hu1 C
  repeat' ((fail_if_success (with_reducible refine istop_append rfl ?_)); first | go_values | gi_guarded | gi_step | gi_upon | (simp only []; go_at_K))
  refine range_leave rfl (enters_of Try.func89 (by kernel_rfl) rfl) fun fn rec HR => ?_
  have hg1 : g ≠ b6 := hBb.ne_ K3 (by decide)
  have hg2 : g ≠ b7 := hBb.ne_ K4 (by decide)
  have hgl := hBb.lt
  have hl4 := K4.lt
  refine (backEach 2 (w1.heap.size + 1) w _ g A n c (hBb.alloc _ |>.alloc _) l hr hl
    (fun m fp W => ((∀ j (hj : j < l.length), m ≤ j → ¬ (l[j].k = k ∧ l[j].s = s)) ∧ Upd [] fp w W) ∧ BJ k s b4 b5 b6 b7 (w1.heap.size + 1) w1.heap.size (rec .ready none) rvZ false fp W)
    (fun m fp W => ((∀ j (hj : j < l.length), m < j → ¬ (l[j].k = k ∧ l[j].s = s)) ∧ Upd [] fp w W) ∧ ∃ hm : m < l.length, (l[m].k = k ∧ l[m].s = s) ∧ ∃ y : Rv, y.rc = l[m].rc ∧ BJ k s b4 b5 b6 b7 (w1.heap.size + 1) w1.heap.size (rec .done (some .ret)) y true fp W)
    ⟨fun h hu => ⟨⟨h.1.1, h.1.2.trans (hu.up _)⟩, h.2.still hu⟩, ?turn⟩
    [w1.heap.size + 1, b6, b7] ⟨⟨fun j hj hlj => by omega, ((hU1.alloc _).alloc _).gives (by simp; omega)⟩, rfl, (K1.alloc _).alloc _, (K2.alloc _).alloc _, (K3.alloc _).alloc _, (K4.alloc _).alloc _, OwnB.nil _ _, alloc2_new _ _ _, alloc2_old _ _ _⟩
    (((hU1.alloc _).alloc _).gives (by simp; omega)) (by simp; omega)).mono ?rest
  case turn =>
    rintro m hm fp W ⟨⟨hne, hUw⟩, rfl, hk, hs, h6, h7, -, hl, hd⟩
    have hx0 := hr.each _ (List.getElem_mem hm)
    have hx := hx0.upd hUw (by simp)
    have hxl := hb _ (List.getElem_mem hm)
    refine (yield_leave HR (R := fun W' => ∃ fp', (((∀ j (hj : j < l.length), m ≤ j → ¬ (l[j].k = k ∧ l[j].s = s)) ∧ Upd [] fp' w W') ∧ BJ k s b4 b5 b6 b7 (w1.heap.size + 1) w1.heap.size (rec .ready none) rvZ false fp' W') ∧ Upd [w1.heap.size + 1, b6, b7] fp' W W')
      (Rx := fun W' => ∃ fp', (((∀ j (hj : j < l.length), m < j → ¬ (l[j].k = k ∧ l[j].s = s)) ∧ Upd [] fp' w W') ∧ ∃ hm : m < l.length, (l[m].k = k ∧ l[m].s = s) ∧ ∃ y : Rv, y.rc = l[m].rc ∧ BJ k s b4 b5 b6 b7 (w1.heap.size + 1) w1.heap.size (rec .done (some .ret)) y true fp' W') ∧ Upd [w1.heap.size + 1, b6, b7] fp' W W') hl rfl ?_)
    clear hU1 hBb hr hb K1 K2 K3 K4
    have hlL := (Array.getElem?_eq_some_iff.1 hl).1
    have HNE := Lib.hid hne
    have HM := Lib.hid hm
    clear hne
    generalize hxe : l[m] = x at *
    have HXE := Lib.hid hxe
    clear hxe hm
    repeat' ((fail_if_success (with_reducible refine istop_append rfl ?_)); first | go_values | gi_guarded | gi_step | gi_upon | (simp only []; go_at_K))
    refine ⟨(Below.heap_alloc _ _ _ hlL).trans hl, ?_⟩
    generalize hW2 : World.putObj (World.alloc W _) _ _ = W2
    have hlb : W2.heap[w1.heap.size + 1]? = some (rec .busy none) := by rw [← hW2]; exact World.putObj_heap_same (by rw [World.size_alloc]; omega)
    have U2 : Upd [w1.heap.size + 1, b6, b7] [w1.heap.size + 1, b6, b7] W W2 := by
      rw [← hW2]; exact (((Upd.refl [] W).alloc _).up _).trans ((upd_putObj _ _ _).wide (by simp))
    have hB2 : Blk W2 W.heap.size 77 #[.int .i64 x.k, .int .i64 x.s, .int .i64 x.r, .int .i64 x.t, .slice x.A x.n x.c] := by
      rw [← hW2]; exact (Blk.new W _ _).upd (upd_putObj _ _ _) (by simp; omega)
    have hk2 : Blk W2 b4 3 #[.int .i64 k] := by
      rw [← hW2]; exact (hk.alloc _).upd (upd_putObj _ _ _) (by simp; omega)
    have hs2 : Blk W2 b5 3 #[.int .i64 s] := by
      rw [← hW2]; exact (hs.alloc _).upd (upd_putObj _ _ _) (by simp; omega)
    have h62 : Blk W2 b6 77 #[.int .i64 0, .int .i64 0, .int .i64 0, .int .i64 0, .slice none 0 0] := by
      rw [← hW2]; exact (h6.alloc _).upd (upd_putObj _ _ _) (by simp; omega)
    have h72 : Blk W2 b7 4 #[.bool false] := by
      rw [← hW2]; exact (h7.alloc _).upd (upd_putObj _ _ _) (by simp; omega)
    have hd2 : W2.heap[w1.heap.size]? = some (.deferred (some [])) := by
      rw [← hW2]; exact ((upd_putObj _ _ _).block _ (by rw [World.size_alloc]; omega) (by simp)).trans ((Below.heap_alloc _ _ _ (by omega)).trans hd)
    have hUw2 := hUw.trans U2
    have hx2 : RdB W2 x.A x.n x.b := by
      rw [← hW2]; exact (hx.alloc _).upd' (upd_putObj _ _ _) (fun hn j hj hj' => by have := hx0.lt hn j hj; simp at hj'; omega)
    have hWw := hUw.size
    clear hW2 hk hs h6 h7 hd hl hx hx0 hUw
    have hlL2 := (Array.getElem?_eq_some_iff.1 hlb).1
    have hdL2 := (Array.getElem?_eq_some_iff.1 hd2).1
    obtain ⟨b9, hb9⟩ : ∃ b, W.heap.size = b := ⟨_, rfl⟩
    rw [hb9] at hB2 ⊢
    have hb9L : b9 ≠ w1.heap.size + 1 := by omega
    have hb96 : b6 ≠ b9 := by omega
    have hb97 : b7 ≠ b9 := by omega
    obtain ⟨⟨q0, q1, q2, q3, q4⟩, f0, f1, f2, f3, f4⟩ := hB2.c5
    obtain ⟨qk, -⟩ := hk2.c1
    obtain ⟨qs, -⟩ := hs2.c1
    by_cases e : x.k = k ∧ x.s = s
    · obtain ⟨e1, e2⟩ := e
      have hbe1 : (x.k == k) = true := by simpa using e1
      have hbe2 : (x.s == s) = true := by simpa using e2
      have HE := Lib.hid (And.intro e1 e2)
      clear e1 e2
      repeat' ((fail_if_success (with_reducible refine istop_append rfl ?_)); first | go_values | gi_guarded | gi_step | gi_upon | (simp only []; go_at_K))
      refine ⟨trivial, ((callsIn_wide.2 (bytesClone W2 x.A x.n x.c x.b hx2 hxl)).inRound _).mono ?_⟩
      rintro e w3 ⟨A3, k3, c3, rfl, ho3, hu3⟩
      have V3 : Upd [w1.heap.size + 1, b6, b7] [w1.heap.size + 1, b6, b7] W2 w3 := (hu3.gives (b' := []) (by simp)).up _
      have hB3 := hB2.upd hu3 (by simp)
      have hk3 := hk2.upd hu3 (by simp)
      have hs3 := hs2.upd hu3 (by simp)
      have h63 := h62.upd hu3 (by simp)
      have h73 := h72.upd hu3 (by simp)
      have hlb3 := (hu3.block _ hlL2 (by simp)).trans hlb
      have hdd3 := (hu3.block _ hdL2 (by simp)).trans hd2
      have hA3 : ∀ j ∈ ablk A3, W2.heap.size ≤ j := fun j hj => by
        rcases hu3.fresh j hj with h | h
        · cases h
        · exact h
      have hb9l := hB2.lt
      have hb6l := h62.lt
      have hb7l := h72.lt
      have hUw3 := hUw2.trans V3
      have U3 := U2.trans V3
      clear q0 q1 q2 q3 q4 f0 f1 f2 f3 f4 qk qs hk2 hs2 h62 h72 hUw2 U2 V3 hu3 hlb hd2 hx2
      -- the value of the copy
      obtain ⟨W4, e4⟩ : ∃ V, w3.setCell ⟨b9, 4, none⟩ (.slice A3 k3 c3) = V := ⟨_, rfl⟩
      have U4 : Upd [b9] [b9] w3 W4 := by rw [← e4]; exact (Upd.refl _ _).setCell (.inl (by simp)) _
      have hB4 : Blk W4 b9 77 #[.int .i64 x.k, .int .i64 x.s, .int .i64 x.r, .int .i64 x.t, .slice A3 k3 c3] := by rw [← e4]; simpa using hB3.set_ 4 (.slice A3 k3 c3)
      have h64 := h63.upd U4 (by simpa using hb96)
      have h74 := h73.upd U4 (by simpa using hb97)
      -- the results
      have N5 := rowSet [.int .i64 x.k, .int .i64 x.s, .int .i64 x.r, .int .i64 x.t, .slice A3 k3 c3] h64 rfl (Upd.refl [b6] W4) (.inl (by simp))
      obtain ⟨W5, e5⟩ : ∃ V, setRow W4 b6 0 [.int .i64 x.k, .int .i64 x.s, .int .i64 x.r, .int .i64 x.t, .slice A3 k3 c3] = V := ⟨_, rfl⟩
      rw [e5] at N5
      simp only [setRow] at e5
      have h75 := h74.upd N5.2 (by simp; omega)
      obtain ⟨W6, e6⟩ : ∃ V, W5.setCell ⟨b7, 0, none⟩ (.bool true) = V := ⟨_, rfl⟩
      have U6 : Upd [b7] [b7] W5 W6 := by rw [← e6]; exact (Upd.refl _ _).setCell (.inl (by simp)) _
      have h76 : Blk W6 b7 4 #[.bool true] := by rw [← e6]; simpa using h75.set_ 0 (.bool true)
      have h66 := N5.1.upd U6 (by simp; omega)
      obtain ⟨⟨p0, p1, p2, p3, p4⟩, g0, g1, g2, g3, g4⟩ := hB3.c5
      obtain ⟨⟨r0, r1, r2, r3, r4⟩, -⟩ := hB4.c5
      obtain ⟨⟨s0, s1, s2, s3, s4⟩, i0, i1, i2, i3, i4⟩ := h64.c5
      obtain ⟨t0, j0⟩ := h75.c1
      repeat' ((fail_if_success (with_reducible refine istop_append rfl ?_)); first | go_values | gi_guarded | gi_step | gi_upon | (simp only []; go_at_K))
      have U7 := upd_putObj W6 (w1.heap.size + 1) (rec .done (some .ret))
      have V3 : Upd [w1.heap.size + 1, b6, b7, b9] [w1.heap.size + 1, b6, b7, b9] w3 (W6.putObj (w1.heap.size + 1) (rec .done (some .ret))) :=
        (((U4.wide (by simp)).trans (N5.2.wide (by simp))).trans (U6.wide (by simp))).trans (U7.wide (by simp))
      have hlb6 := (((U6.block _ (by have := N5.2.size; have := U4.size; have := (Array.getElem?_eq_some_iff.1 hlb3).1; omega) (by simp; omega)).trans (N5.2.block _ (by have := U4.size; have := (Array.getElem?_eq_some_iff.1 hlb3).1; omega) (by simp; omega))).trans (U4.block _ (Array.getElem?_eq_some_iff.1 hlb3).1 (by simp; omega))).trans hlb3
      have hdd7 := (V3.block _ (Array.getElem?_eq_some_iff.1 hdd3).1 (by simp; omega)).trans hdd3
      have ho7 := ho3.upd V3 (fun j hj => by have := hA3 j hj; simp; omega)
      have hk7 := hk3.upd V3 (by simp; omega)
      have hs7 := hs3.upd V3 (by simp; omega)
      refine ⟨hlb6, .inr ⟨rfl, [w1.heap.size + 1, b6, b7], ⟨⟨fun j hj hmj => HNE.out j hj (by omega), ?_⟩, HM.out, ⟨?_, ?_⟩, ⟨x.k, x.s, x.r, x.t, A3, k3, c3, x.b⟩, ?_, rfl, hk7, hs7, h66.upd U7 (by simp; omega), h76.upd U7 (by simp; omega), ho7, World.putObj_heap_same (Array.getElem?_eq_some_iff.1 hlb6).1, hdd7⟩, ?_⟩⟩
      · exact ((hUw3.gives (b' := [w1.heap.size + 1, b6, b7, b9]) (by simp; omega)).trans V3).gives (by simp; omega)
      · exact (congrArg Rv.k HXE.out).trans HE.out.1
      · exact (congrArg Rv.s HXE.out).trans HE.out.2
      · have := HXE.out
        simp only [Rv.rc]
        rw [← this]
        rfl
      · exact ((U3.gives (b' := [w1.heap.size + 1, b6, b7, b9]) (by simp; omega)).trans V3).gives (by simp)
    · have hne' : ∀ j (hj : j < l.length), m ≤ j → ¬ (l[j].k = k ∧ l[j].s = s) := fun j hj hmj => by
        by_cases ej : j = m
        · subst ej
          have h2 : l[j] = x := HXE.out
          exact fun h => e ⟨(congrArg Rv.k h2).symm.trans h.1, (congrArg Rv.s h2).symm.trans h.2⟩
        · exact HNE.out j hj (by omega)
      have HNE' := Lib.hid hne'
      have U3 := U2.trans ((upd_putObj W2 (w1.heap.size + 1) (rec .ready none)).wide (F := [w1.heap.size + 1, b6, b7]) (by simp))
      have HB := Lib.hid (show ((((∀ j (hj : j < l.length), m ≤ j → ¬ (l[j].k = k ∧ l[j].s = s)) ∧ Upd [] [w1.heap.size + 1, b6, b7] w (W2.putObj (w1.heap.size + 1) (rec .ready none))) ∧ BJ k s b4 b5 b6 b7 (w1.heap.size + 1) w1.heap.size (rec .ready none) rvZ false [w1.heap.size + 1, b6, b7] (W2.putObj (w1.heap.size + 1) (rec .ready none))) ∧ Upd [w1.heap.size + 1, b6, b7] [w1.heap.size + 1, b6, b7] W (W2.putObj (w1.heap.size + 1) (rec .ready none))) from
        ⟨⟨⟨hne', hUw2.trans ((upd_putObj W2 (w1.heap.size + 1) (rec .ready none)).wide (by simp))⟩, rfl, hk2.upd (upd_putObj _ _ _) (by simp; omega), hs2.upd (upd_putObj _ _ _) (by simp; omega), h62.upd (upd_putObj _ _ _) (by simp; omega), h72.upd (upd_putObj _ _ _) (by simp; omega), OwnB.nil _ _, World.putObj_heap_same hlL2, ((upd_putObj W2 _ _).block _ hdL2 (by simp)).trans hd2⟩, U3⟩)
      have e' : x.k = k → x.s = s → False := fun h1 h2 => e ⟨h1, h2⟩
      clear hne' U3 hUw2 h62 h72 hd2 U2 hx2
      by_cases e1 : x.k = k
      · have hbe1 : (x.k == k) = true := by simpa using e1
        have hbe2 : (x.s == s) = false := beq_false_of_ne (e' e1)
        clear e e' e1
        repeat' ((fail_if_success (with_reducible refine istop_append rfl ?_)); first | go_values | gi_guarded | gi_step | gi_upon | (simp only []; go_at_K))
        exact ⟨hlb, .inl ⟨rfl, _, HB.out⟩⟩
      · have hbe1 : (x.k == k) = false := beq_false_of_ne e1
        clear e e' e1
        repeat' ((fail_if_success (with_reducible refine istop_append rfl ?_)); first | go_values | gi_guarded | gi_step | gi_upon | (simp only []; go_at_K))
        exact ⟨hlb, .inl ⟨rfl, _, HB.out⟩⟩
  case rest =>
    rintro e w2 ⟨he, ⟨fp', ⟨⟨hne, hUw⟩, hJ⟩, hu2⟩ | ⟨m, fp', hm, ⟨⟨hne, hUw⟩, hm', hfit, y, hy, hJ⟩, hu2⟩⟩
    · refine ⟨he, .inl ⟨hJ.loop, ?_⟩⟩
      obtain ⟨rfl, hk, hs, h6, h7, -, hl, hd⟩ := hJ
      generalize hW3 : World.putObj w2 _ _ = W3
      have U3 : Upd [w1.heap.size + 1] [w1.heap.size + 1] w2 W3 := by rw [← hW3]; exact upd_putObj _ _ _
      clear hW3
      have h63 := h6.upd U3 (by simp; omega)
      have h73 := h7.upd U3 (by simp; omega)
      have hd3 := (U3.block _ (Array.getElem?_eq_some_iff.1 hd).1 (by simp)).trans hd
      have UA : Upd [] [] w W3 := (hUw.trans (U3.wide (by simp))).gives (by simp)
      have hid : lastR k s l = none := lastR_none fun j hj => hne j hj (by omega)
      have HI := Lib.hid hid
      have hlD := (Array.getElem?_eq_some_iff.1 hd3).1
      clear hid hU1 hu2 U3 hk hs hl hd hne hBb hr HR h6 h7 hUw K1 K2 K3 K4
      -- zeros are stored
      have N5 := rowSet [.int .i64 0, .int .i64 0, .int .i64 0, .int .i64 0, .slice none 0 0] h63 rfl UA (.inr (by omega))
      have M5 := rowSet [.int .i64 0, .int .i64 0, .int .i64 0, .int .i64 0, .slice none 0 0] h63 rfl (Upd.refl [b6] W3) (.inl (by simp))
      obtain ⟨W5, e5⟩ : ∃ V, setRow W3 b6 0 [.int .i64 0, .int .i64 0, .int .i64 0, .int .i64 0, .slice none 0 0] = V := ⟨_, rfl⟩
      rw [e5] at N5 M5
      simp only [setRow] at e5
      have h75 := h73.upd M5.2 (by simp; omega)
      obtain ⟨W6, e6⟩ : ∃ V, W5.setCell ⟨b7, 0, none⟩ (.bool false) = V := ⟨_, rfl⟩
      have U6 : Upd [b7] [b7] W5 W6 := by rw [← e6]; exact (Upd.refl _ _).setCell (.inl (by simp)) _
      have h76 : Blk W6 b7 4 #[.bool false] := by rw [← e6]; simpa using h75.set_ 0 (.bool false)
      have h66 := N5.1.upd U6 (by simp; omega)
      have hd6 := ((U6.block _ (by have := M5.2.size; omega) (by simp; omega)).trans (M5.2.block _ hlD (by simp; omega))).trans hd3
      have UB : Upd [] [] w W6 := by rw [← e6]; exact N5.2.setCell (.inr (by simp; omega)) _
      obtain ⟨⟨s0, s1, s2, s3, s4⟩, i0, i1, i2, i3, i4⟩ := h63.c5
      obtain ⟨t0, j0⟩ := h75.c1
      simp only [Exit.inBlock, Exit.then]
      repeat' ((fail_if_success (with_reducible refine istop_append rfl ?_)); first | go_values | gi_guarded | gi_step | gi_upon | (simp only []; go_at_K))
      have U9 := upd_putObj W6 w1.heap.size (.deferred none)
      obtain ⟨⟨x0, x1, x2, x3, x4⟩, -⟩ := (h66.upd U9 (by simp; omega)).c5
      obtain ⟨x5, -⟩ := (h76.upd U9 (by simp; omega)).c1
      refine ⟨by simp, .inl ⟨_, _, rfl, run_takeDeferred hd6, ?_⟩⟩
      refine ⟨.tuple #[.agg #[.int .i64 0, .int .i64 0, .int .i64 0, .int .i64 0, .slice none 0 0], .bool false], by simp [results, Try.results33, go_sem, x0, x1, x2, x3, x4, x5], ⟨rvZ, by rw [HI.out]; rfl, Rd.none_, by rw [HI.out]; rfl⟩, ?_⟩
      exact UB.grown (grownBy_putObj' W6 w1.heap.size (.deferred none)) (fun k hk => by cases hk; right; omega)
    · refine ⟨he, .inr ⟨hJ.loop, ?_⟩⟩
      obtain ⟨rfl, hk, hs, h6, h7, ho, hl, hd⟩ := hJ
      generalize hW3 : World.putObj w2 _ _ = W3
      have U3 : Upd [w1.heap.size + 1] [w1.heap.size + 1] w2 W3 := by rw [← hW3]; exact upd_putObj _ _ _
      clear hW3
      have h63 := h6.upd U3 (by simp; omega)
      have h73 := h7.upd U3 (by simp; omega)
      have hd3 := (U3.block _ (Array.getElem?_eq_some_iff.1 hd).1 (by simp)).trans hd
      have ho3 := ho.upd U3 (fun j hj => by
        simp only [List.mem_singleton]
        rintro rfl
        exact own_not_obj ho.own hl (rec_cells HR _ _) hj)
      have UB : Upd [] [] w W3 := (hUw.trans (U3.wide (by simp))).gives (by simp)
      have hid : lastR k s l = some l[m] := lastR_at hm hfit (fun j hj hmj => hne j hj hmj)
      have HI := Lib.hid hid
      have HY := Lib.hid hy
      have hlD := (Array.getElem?_eq_some_iff.1 hd3).1
      have ho9 := ho3.upd (upd_putObj W3 w1.heap.size (.deferred none)) (fun j hj => by
        simp only [List.mem_singleton]
        rintro rfl
        exact own_not_obj ho3.own hd3 rfl hj)
      clear hid hU1 hu2 U3 hk hs hl hd hne hBb hr HR h6 h7 hUw K1 K2 K3 K4 hfit hy ho ho3 hb
      repeat' ((fail_if_success (with_reducible refine istop_append rfl ?_)); first | go_values | gi_guarded | gi_step | gi_upon | (simp only []; go_at_K))
      have U9 := upd_putObj W3 w1.heap.size (.deferred none)
      obtain ⟨⟨x0, x1, x2, x3, x4⟩, -⟩ := (h63.upd U9 (by simp; omega)).c5
      obtain ⟨x5, -⟩ := (h73.upd U9 (by simp; omega)).c1
      refine ⟨by simp, .inl ⟨_, _, rfl, run_takeDeferred hd3, ?_⟩⟩
      refine ⟨.tuple #[.agg #[.int .i64 y.k, .int .i64 y.s, .int .i64 y.r, .int .i64 y.t, .slice y.A y.n y.c], .bool true], by simp [results, Try.results33, go_sem, x0, x1, x2, x3, x4, x5], ⟨y, by rw [HI.out]; exact HY.out, ho9.own.rd, by rw [HI.out]; rfl⟩, ?_⟩
      exact UB.grown (grownBy_putObj' W3 w1.heap.size (.deferred none)) (fun k hk => by cases hk; right; omega)
end Go.Proofs.Ytdmmpcdilkcfjaa
