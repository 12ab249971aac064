/- agioref03.Scan, agioref07.Read. -/
import Derived.Test.YtdmmpcdilkcfjaaFrame4
import Derived.Test.YtdmmpcdilkcfjaaFrame
import Derived.Test.YtdmmpcdilkcfjaaRef07b
import Derived.Test.YtdmmpcdilkcfjaaAlog8
namespace Go.Proofs.Ytdmmpcdilkcfjaa
open Go.RowKit Agio

/-- A list of slices, of the call's own; what they show is read. -/
structure RdL (w : World) (A : Option Addr) (k c : Nat) (l : List Sl) : Prop where
  len : k = l.length
  own : Agio.Own 22 1 w A k c (l.map Sl.val)
  each : ∀ x ∈ l, RdB w x.A x.k x.b ∧ x.k ≤ x.c ∧ x.c ≤ maxLen
theorem RdL.upd0 {w w' : World} {A : Option Addr} {k c : Nat} {l : List Sl} {b : List Nat} (h : RdL w A k c l) (hu : Upd [] b w w') : RdL w' A k c l :=
  ⟨h.len, h.own.upd hu (by simp), fun x hx => ⟨(h.each x hx).1.upd hu (by simp), (h.each x hx).2⟩⟩
theorem RdL.at_ {w : World} {A : Option Addr} {k c : Nat} {l : List Sl} (h : RdL w A k c l) {i : Nat} (hi : i < l.length) : ∃ ad, A = some ad ∧ w.cell? (ad.add i) = some (.slice l[i].A l[i].k l[i].c) := by
  obtain ⟨ad, u, e, hu, hc⟩ := h.own.rd.at_ (k := i) (by rw [h.len]; exact hi)
  rw [List.getElem?_map, List.getElem?_eq_getElem hi, Option.map_some, Option.some.injEq] at hu
  subst hu
  exact ⟨ad, e, hc⟩

theorem RdB_down {w w' : World} {A : Option Addr} {n : Nat} {l : List UInt8} {b : List Nat} (h : RdB w' A n l) (hu : Upd [] b w w') (hlt : 0 < n → ∀ k ∈ ablk A, k < w.heap.size) : RdB w A n l :=
  ⟨h.1, fun hn => by
    obtain ⟨ad, e, hc⟩ := h.2 hn
    refine ⟨ad, e, fun j u hj => ?_⟩
    have hb : (ad.add j).block < w.heap.size := by rw [block_of_add]; exact hlt hn _ (by rw [e]; simp [ablk])
    rw [← hc j u hj]
    exact (World.cell?_of_block (w := w) (hu.block _ hb (by simp))).symm⟩

set_option maxRecDepth 100000 in
set_option maxHeartbeats 2000000 in
theorem refScan (w : World) (A : Option Addr) (n c : Nat) (b : List UInt8) (hr : RdB w A n b) (hc : n ≤ c) (hcm : c ≤ maxLen) (hb : b.length ≤ 1099511627776) :
    Calls Try.prog 59 #[.slice A n c] w fun e w' => ∃ A' k' c' l, e = .returned (.tuple #[.slice A' k' c', .int .i64 (((scan b).2 : Nat) : Int)]) ∧ RdL w' A' k' c' l ∧ l.map Sl.b = (scan b).1 ∧ Upd [] (ablk A') w w' := by
  obtain rfl := hr.len
  go_enter Try.func59, Try.ntmps59
  repeat' ((fail_if_success (with_reducible refine stop_append rfl ?_)); (fail_if_success (with_reducible refine stop_copy rfl ?_)); first | go_values | go_skip | go_guarded | go_step | go_upon | (simp only []; go_at_K))
  go_loopw [4, 5] (fun v4 v5 wr => ∃ (a : Nat) (A1 : Option Addr) (k1 c1 : Nat) (l : List Sl), v5 = .int .i64 (a : Int) ∧ v4 = .slice A1 k1 c1 ∧ a ≤ b.length ∧ l.length * 8 ≤ a ∧ (k1 = l.length ∧ Agio.Own 22 1 wr A1 k1 c1 (l.map Sl.val) ∧ ∀ x ∈ l, RdB w x.A x.k x.b ∧ x.k ≤ x.c ∧ x.c ≤ maxLen) ∧ (scan b = (l.map Sl.b ++ (scan (b.drop a)).1, a + (scan (b.drop a)).2)) ∧ Upd [] (ablk A1) w wr)
    (fun _ v5 _ => b.length - (intOf v5).toNat)
  case atStart => exact ⟨0, none, 0, 0, [], rfl, rfl, by omega, by simp, ⟨rfl, Own.nil _ _ _, by simp⟩, by simp, Upd.refl _ _⟩
  case round =>
    obtain ⟨a, A1, k1, c1, l, rfl, rfl, ha, hl8, ⟨rfl, ho, hE⟩, hsc, hu⟩ := hrel
    have HS := Lib.hid hsc; clear hsc
    have hrr := (hr.upd hu (by simp)).rest hc a ha
    obtain ⟨Aa, hAa⟩ : ∃ Aa, (if c = a then A else A.map (fun x => x.add a)) = Aa := ⟨_, rfl⟩
    rw [hAa] at hrr
    have hlc : (b.drop a).length = b.length - a := List.length_drop
    have C := refTakeF wr Aa (b.length - a) (c - a) _ hrr (by omega) (by omega) (by rw [hlc]; omega)
    have hx1 : (a : Int) ≤ (b.length : Int) := by omega
    have hx2 : (0 : Int) ≤ (a : Int) := by omega
    have hx3 : (b.length : Int) ≤ (c : Int) := by omega
    obtain ⟨m, bad, hf⟩ : ∃ m bad, fst (b.drop a) = (m, bad) := ⟨_, _, rfl⟩
    by_cases h0 : bad = 0
    · subst h0
      have hfk := fst_ok hf
      rw [hlc] at hfk
      have h1 := hfk.1
      have h2 := hfk.2.1
      have HY := Lib.hid (scan_yes hf)
      have hx5 : a + (8 + m) ≤ b.length := by omega
      rw [if_neg (by omega)] at hAa
      subst hAa
      clear hfk
      repeat' ((fail_if_success (with_reducible refine stop_append rfl ?_)); (fail_if_success (with_reducible refine stop_copy rfl ?_)); first | go_values | go_skip | go_guarded | go_step | go_upon | (simp only []; go_at_K))
      ((with_reducible refine C.mono ?_); rintro e w1 ⟨hT, kk, rfl⟩)
      obtain ⟨B1, m1, d1, B2, m2, d2, rfl, t1, t2, t3, t4, t5, t6, t7⟩ := hT
      rw [hf]
      rw [hf, if_pos rfl] at t1 t2
      have hm2 : m2 = b.length - (a + (8 + m)) := by
        have := t2.len
        rw [List.length_drop, hlc] at this
        omega
      have hd2 : (b.drop a).drop (8 + m) = b.drop (a + (8 + m)) := List.drop_drop
      have ho1 := ho.upd ((Upd.refl [] wr).drewN kk) (by simp)
      have U1 := hu.drewN kk
      have hlen : l.length ≤ 1099511627776 := by omega
      have t1w := RdB_down t1 hu (fun hn k hk => hr.lt (by have := t1.len; omega) k (by
        have := t7 k (List.mem_append_left _ hk)
        cases A with
        | none => simp [ablk] at this
        | some ad => simpa [ablk, block_of_add] using this))
      clear C hrr ho hu t2 t5 t6 t7 hf t1
      generalize hW1 : wr.drewN kk = W1 at ho1 U1 ⊢
      rw [hd2] at HY
      generalize ((b.drop a).drop 8).take m = x at *
      have hw9 : IntKind.i64.wrap ((b.length : Int) - (m2 : Int)) = ((a + (8 + m) : Nat) : Int) := by rw [IntKind.wrap_i64]; omega
      clear hd2 hW1 hm2
      repeat' ((fail_if_success (with_reducible refine stop_append rfl ?_)); (fail_if_success (with_reducible refine stop_copy rfl ?_)); first | go_values | go_skip | go_guarded | go_step | go_upon | (simp only []; go_at_K))
      refine wpList_push rfl _ _ 119 rfl 22 Try.underlying119 infoSl rfl (by decide) ho1 rfl _ rfl (news := [.slice B1 m1 d1]) rfl rfl rfl (by unfold maxLen; omega) (by omega) ?_
      intro A3 c3 w3 ho3 hu3
      have U3 := U1.trans hu3
      have hO3 : l.length + 1 = (l ++ [(⟨B1, m1, d1, x⟩ : Sl)]).length ∧ Agio.Own 22 1 w3 A3 (l.length + 1) c3 ((l ++ [(⟨B1, m1, d1, x⟩ : Sl)]).map Sl.val) ∧ ∀ y ∈ l ++ [(⟨B1, m1, d1, x⟩ : Sl)], RdB w y.A y.k y.b ∧ y.k ≤ y.c ∧ y.c ≤ maxLen := ⟨by simp, by rw [List.map_append]; exact ho3, fun y hy => by
        rcases List.mem_append.1 hy with hy | hy
        · exact hE y hy
        · obtain rfl := List.mem_singleton.1 hy
          exact ⟨t1w, t3, t4⟩⟩
      clear t1w ho1 ho3 U1 hu3
      have HO3 := Lib.hid hO3
      have HE := Lib.hid hE
      clear hO3 hE
      repeat' ((fail_if_success (with_reducible refine stop_append rfl ?_)); (fail_if_success (with_reducible refine stop_copy rfl ?_)); first | go_values | go_skip | go_guarded | go_step | go_upon | (simp only []; go_at_K))
      have hHS := HS.out
      rw [HY.out] at hHS
      refine ⟨⟨a + (8 + m), A3, _, c3, _, rfl, rfl, hx5, by simp; omega, HO3.out, ?_, U3⟩, by simp [intOf]; omega⟩
      rw [hHS]
      simp [Nat.add_assoc]
    · subst hAa
      have HY := Lib.hid (scan_no (b := b.drop a) (by rw [hf]; exact h0))
      repeat' ((fail_if_success (with_reducible refine stop_append rfl ?_)); (fail_if_success (with_reducible refine stop_copy rfl ?_)); first | go_values | go_skip | go_guarded | go_step | go_upon | (simp only []; go_at_K))
      ((with_reducible refine C.mono ?_); rintro e w1 ⟨hT, kk, rfl⟩)
      obtain ⟨B1, m1, d1, B2, m2, d2, rfl, -⟩ := hT
      rw [hf]
      have hne : ((bad : Int) != 0) = true := by
        unfold bne
        rw [beq_false_of_ne (by omega)]
        rfl
      have ho1 := ho.upd ((Upd.refl [] wr).drewN kk) (by simp)
      have U1 := hu.drewN kk
      clear C hrr ho hu hf
      repeat' ((fail_if_success (with_reducible refine stop_append rfl ?_)); (fail_if_success (with_reducible refine stop_copy rfl ?_)); first | go_values | go_skip | go_guarded | go_step | go_upon | (simp only []; go_at_K))
      go_ret2
      have hs := HS.out
      rw [HY.out] at hs
      simp only [List.append_nil, Nat.add_zero] at hs
      exact ⟨A1, _, c1, l, by rw [hs]; rfl, ⟨rfl, ho1, fun x hx => ⟨(hE x hx).1.upd U1 (by simp), (hE x hx).2⟩⟩, by rw [hs], U1⟩

theorem Rvs.own0 {w : World} {e : TypeId} {A : Option Addr} {n c : Nat} {l : List Rv} (h : Agio.Own e 5 w A n c (l.flatMap Rv.cells)) (hb : ∀ x ∈ l, RdB w x.A x.n x.b) : Rvs w A n l :=
  ⟨⟨by have := h.len; rw [flat_len Rv.cells_len] at this; omega, h.rd⟩, hb⟩

set_option maxRecDepth 100000 in
set_option maxHeartbeats 4000000 in
theorem ref07Read (w : World) (A : Option Addr) (n c : Nat) (b : List UInt8) (hr : RdB w A n b) (hc : n ≤ c) (hcm : c ≤ maxLen) (hb : b.length ≤ 1000000000) :
    Calls Try.prog 32 #[.slice A n c] w fun e w' => ∃ A' k' c' xs, e = .returned (.tuple #[.slice A' k' c', .int .i64 (((readB b).2 : Nat) : Int)]) ∧ rcs xs = (readB b).1 ∧ Rvs w' A' k' xs ∧ Upd [] [] w w' := by
  have CS := refScan w A n c b hr hc hcm (by omega)
  go_enter Try.func32, Try.ntmps32
  repeat' ((fail_if_success (with_reducible refine stop_append rfl ?_)); (fail_if_success (with_reducible refine stop_copy rfl ?_)); first | go_values | go_skip | go_guarded | go_step | go_upon | (simp only []; go_at_K))
  ((with_reducible refine CS.mono ?_); rintro e w1 ⟨A1, k1, c1, L, rfl, hL, hLb, hu1⟩)
  have U1 : Upd [] [] w w1 := hu1.gives (by simp)
  have hle : ∀ x ∈ L, x.b.length + 8 ≤ b.length := fun x hx => scan_le (b := b) (x := x.b) (by rw [← hLb]; exact List.mem_map.2 ⟨x, hx, rfl⟩)
  have hLl : L.length * 8 ≤ b.length := by
    have h1 := (scan_ok b).1
    have h2 := congrArg List.length (scan_ok b).2.1
    rw [← hLb, List.length_take] at h2
    have h3 : ∀ l : List (List UInt8), l.length * 8 ≤ (l.flatMap put).length := by
      intro l
      induction l with
      | nil => simp
      | cons x r ih => rw [List.flatMap_cons, List.length_append, put_len, List.length_cons]; omega
    have h4 := h3 (L.map Sl.b)
    rw [List.length_map] at h4
    omega
  have hk1 := hL.len
  subst hk1
  clear CS hu1 hr
  repeat' ((fail_if_success (with_reducible refine stop_append rfl ?_)); (fail_if_success (with_reducible refine stop_copy rfl ?_)); first | go_values | go_skip | go_guarded | go_step | go_upon | (simp only []; go_at_K))
  go_loopw [6, 7, 8] (fun v6 v7 v8 wr => ∃ (i : Nat) (A2 : Option Addr) (c2 : Nat) (pre : List Rv) (z : Nat), i ≤ L.length ∧ v8 = .int .i64 (i : Int) ∧ v6 = .slice A2 pre.length c2 ∧ v7 = .int .i64 (z : Int) ∧
      Agio.Own 80 5 wr A2 pre.length c2 (pre.flatMap Rv.cells) ∧ (∀ x ∈ pre, OwnB 5 wr x.A x.n x.c x.b) ∧ pre.length = i ∧
      ((readB b).1 = rcs pre ++ (rdAll ((L.map Sl.b).drop i)).1 ∧ (readB b).2 = z + (rdAll ((L.map Sl.b).drop i)).2) ∧ z ≤ (readB b).2 ∧ Upd [] (ablk A2) w1 wr)
    (fun _ _ v8 _ => L.length - (intOf v8).toNat)
  case atStart => exact ⟨0, none, 0, [], 0, by omega, rfl, rfl, rfl, Agio.Own.nil _ _ _, by simp, rfl, by simp [rcs, readB, hLb], by omega, Upd.refl _ _⟩
  case round =>
    obtain ⟨i, A2, c2, pre, z, hi, rfl, rfl, rfl, ho, hE, hpi, hX, hz2, U⟩ := hrel
    have hLr := hL.upd0 U
    have hrb := (readB_ok b).1
    by_cases hlt : i < L.length
    · have hil : (i : Int) < (L.length : Int) := by omega
      have hw1 : IntKind.i64.wrap ((i : Int) + 1) = (i : Int) + 1 := by rw [IntKind.wrap_i64]; omega
      obtain ⟨ad, hA, q0⟩ := hLr.at_ hlt
      subst hA
      obtain ⟨hxr, hxc, hxm⟩ := hLr.each _ (List.getElem_mem hlt)
      have hxl := hle _ (List.getElem_mem hlt)
      have hi2 : i < (L.map Sl.b).length := by simpa using hlt
      have hgb : (L.map Sl.b)[i] = L[i].b := List.getElem_map ..
      have hN : decR L[i].b = none → rdAll ((L.map Sl.b).drop i) = ([], 0) := fun h => rdAll_drop_none hi2 (by rw [hgb]; exact h)
      have hS : ∀ r, decR L[i].b = some r → rdAll ((L.map Sl.b).drop i) = (r :: (rdAll ((L.map Sl.b).drop (i + 1))).1, 8 + L[i].b.length + (rdAll ((L.map Sl.b).drop (i + 1))).2) := fun r h => by
        have := rdAll_drop_some hi2 (r := r) (by rw [hgb]; exact h)
        rwa [hgb] at this
      have hkx := hxr.len
      clear hi2 hgb
      generalize L[i] = x at *
      have C := ref07Decode wr x.A x.k x.c x.b hxr hxc hxm (by omega)
      generalize rdAll ((L.map Sl.b).drop i) = R at *
      obtain ⟨R2, hR2⟩ : ∃ R2, rdAll ((L.map Sl.b).drop (i + 1)) = R2 := ⟨_, rfl⟩
      rw [hR2] at hS
      have HR2 := Lib.hid hR2
      clear hR2
      have HX := Lib.hid hX
      have HE := Lib.hid hE
      have HPI := Lib.hid hpi
      have HK := Lib.hid hkx
      clear hX hE hpi hkx
      repeat' ((fail_if_success (with_reducible refine stop_append rfl ?_)); (fail_if_success (with_reducible refine stop_copy rfl ?_)); first | go_values | go_skip | go_guarded | go_step | go_upon | (simp only []; go_at_K))
      ((with_reducible refine C.mono ?_); rintro e w2 ⟨hD, hu2⟩)
      have ho2 := ho.upd hu2 (by simp)
      have U2 := U.trans (hu2.up _)
      have hE2 : ∀ x ∈ pre, OwnB 5 w2 x.A x.n x.c x.b := fun x hx => (HE.out x hx).upd hu2 (by simp)
      have q2 := hu2.cell q0 (by simp)
      clear C ho U hu2 q0 HE
      rcases hD with ⟨hd, rfl⟩ | ⟨y, hd, hoy, rfl⟩
      · have hRe := hN hd
        clear hN hS hd
        have hX2 := HX.out
        rw [hRe] at hX2
        simp only [List.append_nil, Nat.add_zero] at hX2
        have HX2 := Lib.hid hX2
        have HE2 := Lib.hid hE2
        clear hX2 hE2 hRe HX hLr hxr
        repeat' ((fail_if_success (with_reducible refine stop_append rfl ?_)); (fail_if_success (with_reducible refine stop_copy rfl ?_)); first | go_values | go_skip | go_guarded | go_step | go_upon | (simp only []; go_at_K))
        go_ret2
        have hv := Rvs.own0 (ho2.alloc (.cells #[.int .i64 0, .int .i64 0, .int .i64 0, .int .i64 0, .slice none 0 0] 80)) (fun x hx => ((HE2.out x hx).alloc _).own.rd)
        exact ⟨A2, _, c2, pre, by rw [HX2.out.2]; rfl, HX2.out.1.symm, hv, (U1.trans (U2.gives (by simp))).alloc _⟩
      · have hRe := hS _ hd
        have hyb : y.rc.bytes = x.b := (decR_ok hd).2
        clear hN hS hd
        have hX2 := HX.out
        rw [hRe] at hX2
        have hsum : z + (8 + x.b.length) ≤ (readB b).2 := by have := hX2.2; simp only at this; omega
        have hw2 : IntKind.i64.wrap ((z : Int) + 8) = (z : Int) + 8 := by rw [IntKind.wrap_i64]; omega
        have hw3 : IntKind.i64.wrap ((z : Int) + 8 + (x.k : Int)) = ((z + (8 + x.b.length) : Nat) : Int) := by have := HK.out; rw [IntKind.wrap_i64]; omega
        have HX2 := Lib.hid hX2
        have HR := Lib.hid hrb
        have UB : Upd [] [] w2 (w2.alloc (.cells #[.int .i64 y.k, .int .i64 y.s, .int .i64 y.r, .int .i64 y.t, .slice y.A y.n y.c] 80)) := (Upd.refl _ _).alloc _
        have hB := Blk.new w2 80 #[.int .i64 y.k, .int .i64 y.s, .int .i64 y.r, .int .i64 y.t, .slice y.A y.n y.c]
        obtain ⟨W3, eW3⟩ : ∃ V, w2.alloc (.cells #[.int .i64 y.k, .int .i64 y.s, .int .i64 y.r, .int .i64 y.t, .slice y.A y.n y.c] 80) = V := ⟨_, rfl⟩
        rw [eW3] at UB hB
        have ho3 := ho2.upd UB (by simp)
        have hoy3 := hoy.upd UB (by simp)
        have hE3 : ∀ x ∈ pre, OwnB 5 W3 x.A x.n x.c x.b := fun x hx => (hE2 x hx).upd UB (by simp)
        have q3 := UB.cell q2 (by simp)
        have U3 := U2.trans (UB.up _)
        obtain ⟨⟨p0, p1, p2, p3, p4⟩, -⟩ := hB.c5
        have hLd := (hL.upd0 U3).own.disj ho3 (by decide)
        have hpl : pre.length ≤ 125000000 := by have := HPI.out; omega
        clear hX2 hRe HX hLr hxr hrb UB hB ho2 hoy hE2 q2 U2
        repeat' ((fail_if_success (with_reducible refine stop_append rfl ?_)); (fail_if_success (with_reducible refine stop_copy rfl ?_)); first | go_values | go_skip | go_guarded | go_step | go_upon | (simp only []; go_at_K))
        refine wpList_push rfl _ _ 68 rfl 80 Try.underlying68 infoRec2 rfl (by decide) ho3 rfl _ rfl (news := [.int .i64 y.k, .int .i64 y.s, .int .i64 y.r, .int .i64 y.t, .slice y.A y.n y.c]) rfl rfl rfl (by unfold maxLen; omega) (by omega) ?_
        intro A5 c5 w5 ho5 hu5
        have U5 := U3.trans hu5
        have q5 := hu5.cell q3 (by rw [block_of_add]; exact hLd ad.block (by simp [ablk]))
        have hE5 : ∀ v ∈ pre ++ [y], OwnB 5 w5 v.A v.n v.c v.b := fun v hv => by
          rcases List.mem_append.1 hv with hv | hv
          · exact (hE3 v hv).upd hu5 ((hE3 v hv).own.disj ho3 (by decide))
          · obtain rfl := List.mem_singleton.1 hv
            exact hoy3.upd hu5 (hoy3.own.disj ho3 (by decide))
        rw [show pre.flatMap Rv.cells ++ [.int .i64 y.k, .int .i64 y.s, .int .i64 y.r, .int .i64 y.t, .slice y.A y.n y.c] = (pre ++ [y]).flatMap Rv.cells by simp [Rv.cells]] at ho5
        have HE5 := Lib.hid hE5
        have HS := Lib.hid hsum
        clear hE3 hE5 ho3 hoy3 hu5 q3 U3 p0 p1 p2 p3 p4 eW3 hsum
        repeat' ((fail_if_success (with_reducible refine stop_append rfl ?_)); (fail_if_success (with_reducible refine stop_copy rfl ?_)); first | go_values | go_skip | go_guarded | go_step | go_upon | (simp only []; go_at_K))
        refine ⟨⟨i + 1, A5, c5, pre ++ [y], z + (8 + x.b.length), by omega, by simp, by simp, rfl, by simpa using ho5, HE5.out, by simp; exact HPI.out, ⟨?_, ?_⟩, HS.out, U5⟩, by simp [intOf]; omega⟩
        · rw [HX2.out.1, HR2.out]; simp [rcs]
        · rw [HX2.out.2, HR2.out]; simp only; omega
    · obtain rfl : i = L.length := by omega
      have hil : ¬ ((L.length : Int) < (L.length : Int)) := by omega
      have hX2 := hX
      rw [List.drop_eq_nil_of_le (by simp)] at hX2
      simp only [rdAll, List.append_nil, Nat.add_zero] at hX2
      have HX2 := Lib.hid hX2
      have HE2 := Lib.hid hE
      clear hX hX2 hE hLr hpi
      repeat' ((fail_if_success (with_reducible refine stop_append rfl ?_)); (fail_if_success (with_reducible refine stop_copy rfl ?_)); first | go_values | go_skip | go_guarded | go_step | go_upon | (simp only []; go_at_K))
      go_ret2
      exact ⟨A2, _, c2, pre, by rw [HX2.out.2]; rfl, HX2.out.1.symm, Rvs.own0 ho (fun x hx => (HE2.out x hx).own.rd), U1.trans (U.gives (by simp))⟩
end Go.Proofs.Ytdmmpcdilkcfjaa
