/- Records: the iterator of (agio/alog).Read. -/
import Derived.Test.YtdmkhmejpgjioaaDoorAlog5
import Derived.Test.YtdmkhmejpgjioaaDoorIn
set_option linter.all false
namespace Go.Proofs.YtdmkhmejpgjioaaDoor
open Go.RowKit Agio
attribute [local go_sem] Oper.semAt_some

/-- No block of fp bears bytes, or slices of bytes. -/
def Foreign (w : World) (fp : List Nat) : Prop := ∀ k ∈ fp, ∀ cs, w.heap[k]? ≠ some (.cells cs 5 (0, 0)) ∧ w.heap[k]? ≠ some (.cells cs 24 (0, 0))
theorem own_foreign {e : TypeId} {size : Nat} {w : World} {A : Option Addr} {n c : Nat} {xs : List Value} {fp : List Nat} (h : Agio.Own e size w A n c xs) (he : e = 5 ∨ e = 24) (hf : Foreign w fp) : ∀ k ∈ ablk A, k ∉ fp := by
  intro k hk hm
  rcases h.2 with ⟨hv, _⟩ | ⟨g, cap, cur, hv, _, hg, _⟩
  · injection hv with hA; subst hA; simp [ablk] at hk
  · injection hv with hA; subst hA
    simp [ablk] at hk; subst hk
    rcases he with rfl | rfl
    · exact (hf _ hm cur).1 hg
    · exact (hf _ hm cur).2 hg
theorem OwnL.upd2 {w w' : World} {A : Option Addr} {k c : Nat} {l : List Sl} {fp b : List Nat} (h : OwnL w A k c l) (hu : Upd fp b w w') (hf : Foreign w fp) : OwnL w' A k c l :=
  ⟨h.len, h.own.upd hu (own_foreign h.own (.inr rfl) hf), fun x hx => (h.each x hx).upd hu (own_foreign (h.each x hx).own (.inl rfl) hf)⟩
theorem OwnL.at_ {w : World} {A : Option Addr} {k c : Nat} {l : List Sl} (h : OwnL w A k c l) {i : Nat} (hi : i < l.length) : ∃ ad, A = some ad ∧ w.cell? (ad.add i) = some (.slice l[i].A l[i].k l[i].c) := by
  obtain ⟨ad, u, e, hu, hc⟩ := h.own.rd.at_ (k := i) (by rw [h.len]; exact hi)
  rw [List.getElem?_map, List.getElem?_eq_getElem hi, Option.map_some, Option.some.injEq] at hu
  subst hu
  exact ⟨ad, e, hc⟩

/-- What the rounds of a loop over records keep, and what they turn: blocks of the loop's own alone. -/
structure Rounds (N l : Nat) (J : List Rv → List Nat → World → Prop) : Prop where
  still : ∀ {pre fp W W' b}, J pre fp W → Upd [] b W W' → J pre fp W'
  alien : ∀ {pre fp W}, J pre fp W → Foreign W fp
  turn : ∀ pre (x : Rv) fp W, J pre fp W → OwnB 5 W x.A x.n x.c x.b → (layB (rcs (pre ++ [x]))).length ≤ 1099511627776 →
    YieldAt Fence.wide N Tryd.prog l #[.agg #[.int .i64 x.k, .int .i64 x.s, .int .i64 x.r, .int .i64 x.t, .slice x.A x.n x.c], .int .i64 ((8 + x.rc.bytes.length : Nat) : Int)] W fun e W' => e = .returned (.bool true) ∧ ∃ fp', J (pre ++ [x]) fp' W' ∧ Upd fp fp' W W'

theorem rcs_append (a b : List Rv) : rcs (a ++ b) = rcs a ++ rcs b := List.map_append ..
theorem rdAll_drop_none {xs : List (List UInt8)} {i : Nat} (hi : i < xs.length) (h : decR xs[i] = none) : rdAll (xs.drop i) = ([], 0) := by
  rw [List.drop_eq_getElem_cons hi]; simp [rdAll, h]
theorem rdAll_drop_some {xs : List (List UInt8)} {i : Nat} (hi : i < xs.length) {r : Rc} (h : decR xs[i] = some r) : rdAll (xs.drop i) = (r :: (rdAll (xs.drop (i + 1))).1, 8 + xs[i].length + (rdAll (xs.drop (i + 1))).2) := by
  rw [List.drop_eq_getElem_cons hi]; simp [rdAll, h]

theorem scan_le {b x : List UInt8} (h : x ∈ (scan b).1) : x.length + 8 ≤ b.length := by
  have h1 := (scan_ok b).1
  have h2 := congrArg List.length (scan_ok b).2.1
  obtain ⟨s, t, e⟩ := List.append_of_mem h
  rw [e] at h2
  simp only [List.flatMap_append, List.flatMap_cons, List.length_append, List.length_take, put_len] at h2
  omega
set_option maxRecDepth 100000 in
set_option maxHeartbeats 2000000 in
theorem alogRecs (N l : Nat) (w : World) (Bb : Nat) (T : TypeId) (A : Option Addr) (n c : Nat) (b : List UInt8) (hB : Blk w Bb T #[.slice A n c]) (hr : RdB w A n b) (hc : n ≤ c) (hcm : c ≤ maxLen) (hb : b.length ≤ 1099511627776)
    (J : List Rv → List Nat → World → Prop) (hJ : Rounds (N - 1) l J) (fp : List Nat) (h0 : J [] fp w) :
    CallsIn Fence.wide N Tryd.prog 98 #[.func (.yield l) #[] #[], .pointer (some ⟨Bb, 0, none⟩)] w fun e w' => (∃ v, e = .returned v) ∧ ∃ xs fp', rcs xs = (readB b).1 ∧ J xs fp' w' ∧ Upd fp fp' w w' := by
  have q := hB.cell 0
  simp only [List.getElem?_toArray, List.getElem?_cons_zero] at q
  refine callsIn_of_wp Tryd.func98 rfl trivial ?_
  simp only [Tryd.ntmps98, List.size_toArray, List.length_cons, List.length_nil, Nat.reduceAdd, Nat.reduceSub, Array.replicate_succ, Array.replicate_zero, List.push_toArray, List.append_toArray, List.nil_append, List.cons_append]
  repeat' ((fail_if_success (with_reducible refine istop_append rfl ?_)); first | go_values | gi_guarded | gi_step | gi_upon | (simp only []; go_at_K))
  refine ⟨trivial, fun h => (by cases h), (callsIn_wide.2 (frameScan w A n c b hr hc hcm hb)).mono ?_⟩
  rintro e w1 ⟨A', k', c', L, rfl, hL, hLb, hu1⟩
  have J1 := hJ.still h0 hu1
  have U1 := hu1.up fp
  have hle : ∀ x ∈ L, x.b.length ≤ b.length := fun x hx => by have := scan_le (b := b) (x := x.b) (by rw [← hLb]; exact List.mem_map.2 ⟨x, hx, rfl⟩); omega
  have hLk := hL.len
  clear hB hr q h0 hu1 hc hcm
  repeat' ((fail_if_success (with_reducible refine istop_append rfl ?_)); first | go_values | gi_guarded | gi_step | gi_upon | (simp only []; go_at_K))
  gi_loopw [16] (fun v16 wr => ∃ (i : Nat) (pre : List Rv) (fp' : List Nat), i ≤ L.length ∧ v16 = .int .i64 (i : Int) ∧ J pre fp' wr ∧ Upd fp fp' w wr ∧ OwnL wr A' k' c' L ∧
      (readB b).1 = rcs pre ++ (rdAll ((L.map Sl.b).drop i)).1 ∧ (readB b).2 = (layB (rcs pre)).length + (rdAll ((L.map Sl.b).drop i)).2)
    (fun v16 _ => L.length - (intOf v16).toNat)
  case atStart => exact ⟨0, [], fp, by omega, rfl, J1, U1, hL, by simp [rcs, readB, hLb], by simp [rcs, layB, readB, hLb]⟩
  case round =>
    clear J1 U1 hL
    obtain ⟨i, pre, fp', hi, rfl, hJp, U, hL, hX, hY⟩ := hrel
    by_cases hlt : i < L.length
    · obtain ⟨ad, rfl, qc⟩ := hL.at_ hlt
      have hxl := hle _ (List.getElem_mem hlt)
      have hxo := hL.each _ (List.getElem_mem hlt)
      have hi2 : i < (L.map Sl.b).length := by simpa using hlt
      have hgb : (L.map Sl.b)[i] = L[i].b := List.getElem_map ..
      have hN : decR L[i].b = none → rdAll ((L.map Sl.b).drop i) = ([], 0) := fun h => rdAll_drop_none hi2 (by rw [hgb]; exact h)
      have hS : ∀ r, decR L[i].b = some r → rdAll ((L.map Sl.b).drop i) = (r :: (rdAll ((L.map Sl.b).drop (i + 1))).1, 8 + L[i].b.length + (rdAll ((L.map Sl.b).drop (i + 1))).2) := fun r h => by
        have := rdAll_drop_some hi2 (r := r) (by rw [hgb]; exact h)
        rwa [hgb] at this
      have hYb := (readB_ok b).1
      clear hi2 hgb
      generalize L[i] = x at *
      have HX := Lib.hid hxo.len
      have HW : Hid (wrap64 ((i : Int) + 1) = (i : Int) + 1) := Lib.hid (by
        have h1 := hL.own.cap
        have h2 := hL.len
        unfold maxLen at h1
        unfold wrap64
        omega)
      have C := alogDecode wr x.A x.k x.c x.b hxo.rd (by omega)
      generalize rdAll ((L.map Sl.b).drop i) = R at *
      generalize hR2 : rdAll ((L.map Sl.b).drop (i + 1)) = R2 at *
      have hii : (i : Int) < (L.length : Int) := by omega
      have HL := Lib.hid hLk
      clear hLk
      repeat' ((fail_if_success (with_reducible refine istop_append rfl ?_)); first | go_values | gi_guarded | gi_step | gi_upon | (simp only []; go_at_K))
      refine ⟨trivial, fun h => (by cases h), (callsIn_wide.2 C).mono ?_⟩
      rintro e w2 ⟨hD, hu2⟩
      have hL2 := hL.upd hu2
      have J2 := hJ.still hJp hu2
      have U2 := U.trans (hu2.up fp')
      clear C hL hJp U hu2 qc
      rcases hD with ⟨hd, rfl⟩ | ⟨y, hd, ho, rfl⟩
      · rw [hN hd] at hX hY
        clear hN hS
        repeat' ((fail_if_success (with_reducible refine istop_append rfl ?_)); first | go_values | gi_guarded | gi_step | gi_upon | (simp only []; go_at_K))
        refine ⟨fun f h => trivial, ?_⟩
        repeat' ((fail_if_success (with_reducible refine istop_append rfl ?_)); first | go_values | gi_guarded | gi_step | gi_upon | (simp only []; go_at_K))
        refine bodyPost_ret (results_none rfl _ _ _) rfl ?_
        exact ⟨⟨_, rfl⟩, pre, fp', by rw [hX]; simp, hJ.still J2 ((Upd.refl [] w2).alloc _), U2.alloc _⟩
      · have hR := hS _ hd
        have hyb : y.rc.bytes = x.b := (decR_ok hd).2
        rw [hR] at hX hY
        clear hN hS hd hR
        simp only at hX hY
        have hsz : (layB (rcs (pre ++ [y]))).length = (layB (rcs pre)).length + (8 + x.b.length) := by
          rw [rcs_append, layB_append, List.length_append, ← hyb]; simp [rcs, layB]
        have hT := hJ.turn pre y fp' (w2.alloc (.cells #[.int .i64 y.k, .int .i64 y.s, .int .i64 y.r, .int .i64 y.t, .slice y.A y.n y.c] 44)) (hJ.still J2 ((Upd.refl [] w2).alloc _)) (ho.alloc _) (by omega)
        rw [show (((8 + y.rc.bytes.length : Nat) : Int)) = 8 + (x.k : Int) by rw [hyb, HX.out]; push_cast; rfl] at hT
        obtain ⟨fn, tmps, assign, body, hy, hR⟩ := hT
        have hk1 : (x.k : Int) ≤ 1099511627776 := by have := HX.out; omega
        clear ho hxo
        repeat' ((fail_if_success (with_reducible refine istop_append rfl ?_)); first | go_values | gi_guarded | gi_step | gi_upon | (simp only []; go_at_K))
        refine ⟨fun h => (by cases h), hR.mono ?_⟩
        rintro e w3 ⟨rfl, fp3, J3, hu3⟩
        have hL3 := (hL2.upd ((Upd.refl [] w2).alloc (.cells #[.int .i64 y.k, .int .i64 y.s, .int .i64 y.r, .int .i64 y.t, .slice y.A y.n y.c] 44))).upd2 hu3 (hJ.alien (hJ.still J2 ((Upd.refl [] w2).alloc _)))
        have U3 := (U2.alloc _).trans hu3
        clear hy hR J2 U2 hL2 hu3
        repeat' ((fail_if_success (with_reducible refine istop_append rfl ?_)); first | go_values | gi_guarded | gi_step | gi_upon | (simp only []; go_at_K))
        go_roundw
        case rel => exact ⟨i + 1, pre ++ [y], fp3, by omega, by rw [HW.out]; simp, J3, U3, hL3, by rw [hX, hR2, rcs_append]; simp [rcs], by rw [hY, hR2, hsz]; omega⟩
        case measure => rw [HW.out]; simp [intOf]; omega
    · obtain rfl : i = L.length := by omega
      have hni : ¬ ((L.length : Int) < (L.length : Int)) := by omega
      rw [List.drop_eq_nil_of_le (by simp)] at hX hY
      simp only [rdAll, List.append_nil] at hX
      repeat' ((fail_if_success (with_reducible refine istop_append rfl ?_)); first | go_values | gi_guarded | gi_step | gi_upon | (simp only []; go_at_K))
      go_end0
      exact ⟨⟨_, rfl⟩, pre, fp', hX.symm, hJp, U⟩
end Go.Proofs.YtdmkhmejpgjioaaDoor
