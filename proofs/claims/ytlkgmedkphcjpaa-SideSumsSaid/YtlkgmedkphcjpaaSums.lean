/- agiolaw20.SideSums. -/
import Derived.Test.YtlkgmedkphcjpaaFill
import Derived.Test.YtlkgmedkphcjpaaGrow
namespace Go.Proofs.Ytlkgmedkphcjpaa
open Go.RowKit Agio Go.Maps

theorem fillL_sum (s : Int) (b : List UInt8) (k : Nat) : 2 * sumQ (fillL s b k) = (k : Int) * ((k : Int) + 3) := by
  induction k with
  | zero => rfl
  | succ k ih =>
    rw [fillL, sumQ_perm (insO_perm _ _ _), sumQ_cons]
    simp only [mkO]
    have e : ((k + 1 : Nat) : Int) * (((k + 1 : Nat) : Int) + 3) = (k : Int) * ((k : Int) + 3) + 2 * (k : Int) + 4 := by
      push_cast
      simp only [Int.mul_add, Int.add_mul]
      omega
    omega
theorem sumQ_bound {L : List Ord} (h : ∀ o ∈ L, 1 ≤ o.qty ∧ o.qty ≤ 100) : (L.length : Int) ≤ sumQ L ∧ sumQ L ≤ (L.length : Int) * 100 := by
  induction L with
  | nil => simp [sumQ]
  | cons x r ih =>
    have h1 := h x (by simp)
    have h2 := ih fun o ho => h o (List.mem_cons_of_mem _ ho)
    rw [sumQ_cons]
    simp only [List.length_cons]
    push_cast
    omega
theorem fillL_qty {s : Int} {b : List UInt8} {k : Nat} (hk : k ≤ 60) : ∀ o ∈ fillL s b k, 1 ≤ o.qty ∧ o.qty ≤ 100 := fun o ho => by
  have := fillL_ids ho; omega
theorem fillL_prices {s : Int} {b : List UInt8} {k : Nat} {ps : List Int} (h : PricesOf s ps (fillL s b k)) : ps.length ≤ 16 := by
  have hn : ps.Nodup := h.sorted.imp fun {a b} hab e => by subst e; rw [better_irrefl] at hab; cases hab
  have := nodup_len (a := ps) (b := (List.range 16).map (fun i : Nat => (i : Int) + 1)) hn (fun p hp => by
    obtain ⟨x, hx, rfl⟩ := (h.all p).1 hp
    have := fillL_ids hx
    exact List.mem_map.2 ⟨(x.price - 1).toNat, List.mem_range.2 (by omega), by omega⟩)
  simpa using this
theorem sumQ_take {L : List Ord} {j : Nat} (h : j < L.length) : sumQ (L.take (j + 1)) = sumQ (L.take j) + L[j].qty := by
  rw [List.take_succ_eq_append_getElem h, sumQ_append]; simp [sumQ]

set_option maxRecDepth 100000 in
set_option maxHeartbeats 4000000 in
theorem sideSums_any (w : World) (sell : Bool) (A : Option Addr) (n c : Nat) (b : List UInt8) (hb : RdB w A n b) :
    Calls Try.prog 6 #[.bool sell, .slice A n c] w fun e w' => e = .returned (.bool true) ∧ Upd [] [] w w' := by
  obtain rfl := hb.len
  have hs12 : (if sell = true then 2 else 1 : Int) = 1 ∨ (if sell = true then 2 else 1 : Int) = 2 := by cases sell <;> simp
  have hm60 : min b.length 60 ≤ 60 := Nat.min_le_right _ _
  go_enter Try.func6, Try.ntmps6
  repeat' ((fail_if_success (with_reducible refine stop_append rfl ?_)); (fail_if_success (with_reducible refine stop_copy rfl ?_)); first | go_values | go_skip | go_guarded | go_step | go_upon | (simp only []; go_at_K))
  ((with_reducible refine (awake20 _).mono ?_); rintro e w1 ⟨rfl, hu1⟩)
  repeat' ((fail_if_success (with_reducible refine stop_append rfl ?_)); (fail_if_success (with_reducible refine stop_copy rfl ?_)); first | go_values | go_skip | go_guarded | go_step | go_upon | (simp only []; go_at_K))
  ((with_reducible refine (law20Pick _ sell).mono ?_); rintro e w2 ⟨rfl, rfl⟩)
  have hb1 := hb.upd hu1 (by simp)
  repeat' ((fail_if_success (with_reducible refine stop_append rfl ?_)); (fail_if_success (with_reducible refine stop_copy rfl ?_)); first | go_values | go_skip | go_guarded | go_step | go_upon | (simp only []; go_at_K))
  ((with_reducible refine (law20Filled _ _ hs12 A _ c b hb1).mono ?_); rintro e w2 ⟨g, bo, br, R, rfl, h2, hu2⟩)
  have U2 : Upd [] [] w w2 := (hu1.trans hu2).gives (by simp)
  generalize hs : (if sell = true then 2 else 1 : Int) = s at *
  repeat' ((fail_if_success (with_reducible refine stop_append rfl ?_)); (fail_if_success (with_reducible refine stop_copy rfl ?_)); first | go_values | go_skip | go_guarded | go_step | go_upon | (simp only []; go_at_K))
  ((with_reducible refine (sideList w2 g bo br s R _ h2).mono ?_); rintro e w3 ⟨A3, c3, rfl, ho, hu3⟩)
  have h3 := h2.upd0 hu3
  have U3 : Upd [] [] w w3 := U2.trans (hu3.gives (by simp))
  repeat' ((fail_if_success (with_reducible refine stop_append rfl ?_)); (fail_if_success (with_reducible refine stop_copy rfl ?_)); first | go_values | go_skip | go_guarded | go_step | go_upon | (simp only []; go_at_K))
  ((with_reducible refine (sidePrices w3 g bo br s R _ h3).mono ?_); rintro e w4 ⟨A4, c4, ps, rfl, ho4, hps, hpl, hu4⟩)
  have h4 := h3.upd0 hu4
  have U4 : Upd [] [] w w4 := U3.trans (hu4.gives (by simp))
  have ho3 := ho.upd hu4 (by simp)
  have hps16 := fillL_prices hps
  have hlen := fillL_len s b (min b.length 60)
  have hq := fillL_qty (s := s) (b := b) hm60
  have hsum := fillL_sum s b (min b.length 60)
  have h99 : sumAt 99 (fillL s b (min b.length 60)) = 0 := by
    unfold sumAt
    rw [atP_none (fun x hx => by have := fillL_ids hx; omega)]
    rfl
  have hmi : min (b.length : Int) 60 = ((min b.length 60 : Nat) : Int) := by omega
  obtain ⟨m, hm⟩ : ∃ m, min b.length 60 = m := ⟨_, rfl⟩
  obtain ⟨L, hL⟩ : ∃ L, fillL s b m = L := ⟨_, rfl⟩
  have hm6 : m ≤ 60 := by omega
  rw [hm] at hlen ho3 h4 hmi hps hq hsum h99 ⊢
  rw [hL] at hlen ho3 h4 hps hq hsum h99 ⊢
  have HS := Lib.hid hs
  have HSum := Lib.hid hsum
  have H99 := Lib.hid h99
  have hris := h4.sd.rising
  clear hm hL hm60 hs12 hb hb1 h2 h3 hu1 hu2 U2 hu3 hs ho hu4 hsum h99
  rw [hlen] at ho3 ⊢
  have hrd : RdS Ord.cells 7 w4 A3 m L := ⟨hlen.symm, ho3.rd⟩
  have HL := Lib.hid hlen
  clear hlen ho3
  repeat' ((fail_if_success (with_reducible refine stop_append rfl ?_)); (fail_if_success (with_reducible refine stop_copy rfl ?_)); first | go_values | go_skip | go_guarded | go_step | go_upon | (simp only []; go_at_K))
  go_loopw [9, 10] (fun v9 v10 wr => ∃ j : Nat, j ≤ m ∧ v9 = .int .i64 (sumQ (L.take j)) ∧ v10 = .int .i64 (j : Int) ∧ Upd [] [] w4 wr)
    (fun _ v10 _ => m - (intOf v10).toNat)
  case atStart => exact ⟨0, by omega, rfl, rfl, Upd.refl _ _⟩
  case round =>
    obtain ⟨j, hj, rfl, rfl, UJ⟩ := hrel
    by_cases hlt : j < m
    · have hjl : (j : Int) < (m : Int) := by omega
      have hl := HL.out
      have hj1 : j < L.length := by omega
      have hrdj : RdS Ord.cells 7 wr A3 m L := ⟨hrd.len, hrd.rd.upd UJ (by simp)⟩
      obtain ⟨ad, rfl, -, -, -, -, p4, -, -⟩ := ord_at hrdj hj1
      have hst := sumQ_take hj1
      have hbd := sumQ_bound (L := L.take (j + 1)) (fun o ho => hq o (List.mem_of_mem_take ho))
      rw [hst] at hbd
      rw [List.length_take, Nat.min_eq_left (by omega)] at hbd
      have hw1 : IntKind.i64.wrap ((j : Int) + 1) = (j : Int) + 1 := by rw [IntKind.wrap_i64]; omega
      have hw2 : wrap64 (sumQ (L.take j) + L[j].qty) = sumQ (L.take (j + 1)) := by rw [hst]; unfold wrap64; omega
      have HW := Lib.hid hw2
      generalize L[j].qty = q at *
      generalize sumQ (L.take j) = t at *
      clear hst hbd hl hj1 hw2 hrd hrdj h4 hps ho4
      repeat' ((fail_if_success (with_reducible refine stop_append rfl ?_)); (fail_if_success (with_reducible refine stop_copy rfl ?_)); first | go_values | go_skip | go_guarded | go_step | go_upon | (simp only []; go_at_K))
      exact ⟨⟨j + 1, by omega, by rw [HW.out], by simp, UJ⟩, by simp [intOf]; omega⟩
    · obtain rfl : j = m := by omega
      have hjl : ¬ ((j : Int) < (j : Int)) := by omega
      have htk : L.take j = L := List.take_of_length_le (by have := HL.out; omega)
      rw [htk]
      have hbd := sumQ_bound hq
      rw [HL.out] at hbd
      obtain ⟨tot, htot⟩ : ∃ tot, sumQ L = tot := ⟨_, rfl⟩
      rw [htot] at hbd ⊢
      clear htk hrd
      have HT := Lib.hid htot
      have HQ := Lib.hid hq
      clear htot hq
      repeat' ((fail_if_success (with_reducible refine stop_append rfl ?_)); (fail_if_success (with_reducible refine stop_copy rfl ?_)); first | go_values | go_skip | go_guarded | go_step | go_upon | (simp only []; go_at_K))
      go_loopw [11, 12] (fun v11 v12 wr' => ∃ i : Nat, i ≤ ps.length ∧ v11 = .int .i64 (sumQ ((ps.take i).flatMap fun p => atP p L)) ∧ v12 = .int .i64 (i : Int) ∧ Upd [] [] w4 wr')
        (fun _ v12 _ => ps.length - (intOf v12).toNat)
      case atStart => exact ⟨0, by omega, by simp [sumQ], rfl, UJ⟩
      case round =>
        obtain ⟨i, hi, rfl, rfl, U⟩ := hrel
        have hh := h4.upd0 U
        by_cases hlt : i < ps.length
        · have hil : (i : Int) < (ps.length : Int) := by omega
          obtain ⟨ad, u, hA, hu, hc⟩ := (ho4.upd U (by simp)).rd.at_ hlt
          subst hA
          rw [List.getElem?_map, List.getElem?_eq_getElem hlt, Option.map_some, Option.some.injEq] at hu
          subst hu
          have hfl := flat_at hlt L
          have hfq : ∀ M : List Ord, (∀ o ∈ M, o ∈ L) → M.length ≤ L.length → 0 ≤ sumQ M ∧ sumQ M ≤ 6000 := fun M hM hl => by
            have := sumQ_bound (L := M) (fun o ho => HQ.out o (hM o ho))
            have := HL.out
            omega
          have hsub : ∀ (k : Nat), ∀ o ∈ (ps.take k).flatMap (fun p => atP p L), o ∈ L := fun k o ho => by
            obtain ⟨p, _, hp⟩ := List.mem_flatMap.1 ho
            exact (List.mem_filter.1 hp).1
          have b1 := hfq _ (hsub i) (flat_le hps hris i)
          have b2 := hfq _ (hsub (i + 1)) (flat_le hps hris (i + 1))
          have hst : sumQ ((ps.take (i + 1)).flatMap fun p => atP p L) = sumQ ((ps.take i).flatMap fun p => atP p L) + sumAt ps[i] L := by rw [hfl, sumQ_append]; rfl
          have hpm : ps[i] ∈ ps := List.getElem_mem hlt
          have hp1 : 1 ≤ sumAt ps[i] L := by
            obtain ⟨x, hx, e⟩ := (hps.all _).1 hpm
            have hm : x ∈ atP ps[i] L := List.mem_filter.2 ⟨hx, by simpa using e⟩
            have := (sumQ_bound (L := atP ps[i] L) (fun o ho => HQ.out o (List.mem_filter.1 ho).1)).1
            have h0 := List.length_pos_of_mem hm
            unfold sumAt
            omega
          have hwf : (Lit.int .i64 ps[i]).wf = true := by
            obtain ⟨x, hx, e⟩ := (hps.all _).1 hpm
            have := hh.sd.may x hx
            simp only [mayO, decide_eq_true_eq] at this
            exact wf64 (by omega) (by omega)
          have hprev : ∀ k (hk : k + 1 = i), better s ps[k] ps[i] = true := fun k hk => List.pairwise_iff_getElem.1 hps.sorted k i (by omega) hlt (by omega)
          have hcp : ∀ k (hk : k + 1 = i), wr.cell? (ad.add k) = some (.int .i64 ps[k]) := fun k hk => by
            obtain ⟨ad', u, hA, hu, hc⟩ := (ho4.upd U (by simp)).rd.at_ (k := k) (by omega)
            injection hA with hA
            subst hA
            rw [List.getElem?_map, List.getElem?_eq_getElem (by omega), Option.map_some, Option.some.injEq] at hu
            rw [hu]; exact hc
          have C := fun W (hW : SideS W g s bo br R L) => sideAt W g bo br s R L hW ps[i] hwf
          have hw2 : wrap64 (sumQ ((ps.take i).flatMap fun p => atP p L) + sumAt ps[i] L) = sumQ ((ps.take (i + 1)).flatMap fun p => atP p L) := by rw [hst]; unfold wrap64; omega
          have hw1 : IntKind.i64.wrap ((i : Int) + 1) = (i : Int) + 1 := by rw [IntKind.wrap_i64]; omega
          have hn1 : decide (sumAt ps[i] L < 1) = false := decide_eq_false (by omega)
          obtain ⟨pi, hpi⟩ : ∃ pi, ps[i] = pi := ⟨_, rfl⟩
          rw [hpi] at C hc hw2 hprev hn1
          have HW := Lib.hid hw2
          generalize hS1 : sumAt pi L = sp at *
          generalize sumQ ((ps.take i).flatMap fun p => atP p L) = t at *
          clear hst hpm hp1 hwf hfl hfq hsub b1 b2 hw2 h4 hps ho4
          repeat' ((fail_if_success (with_reducible refine stop_append rfl ?_)); (fail_if_success (with_reducible refine stop_copy rfl ?_)); first | go_values | go_skip | go_guarded | go_step | go_upon | (simp only []; go_at_K))
          ((with_reducible refine (C _ hh).mono ?_); rintro e w5 ⟨rfl, hu5⟩)
          have hh5 := hh.upd0 hu5
          have hc5 := hu5.cell hc (by simp)
          have U5 := U.trans hu5
          have hcp5 : ∀ k (hk : k + 1 = i), w5.cell? (ad.add k) = some (.int .i64 ps[k]) := fun k hk => hu5.cell (hcp k hk) (by simp)
          clear hc hcp hu5 U hh
          have CW : ∀ p : GU w5, Calls Try.prog 33 #[.pointer (some ⟨g, 0, none⟩), .int .i64 pi] p.w fun e w' => e = .returned (.int .i64 sp) ∧ ∃ q : GU w5, w' = q.w :=
            fun p => p.call (C _ (hh5.upd0 p.u))
          have hcw : ∀ p : GU w5, p.w.cell? (ad.add i) = some (.int .i64 pi) := fun p => p.u.cell hc5 (by simp)
          have hcpw : ∀ p : GU w5, ∀ k (hk : k + 1 = i), p.w.cell? (ad.add k) = some (.int .i64 ps[k]) := fun p k hk => p.u.cell (hcp5 k hk) (by simp)
          rcases Nat.eq_zero_or_pos i with h0 | h0
          · have hz2 : decide ((0 : Int) < (i : Int)) = false := decide_eq_false (by omega)
            have hz3 : decide (0 < i) = false := decide_eq_false (by omega)
            clear hprev hcp5 hc5 hcpw hh5 C h0
            repeat' ((fail_if_success (with_reducible refine stop_append rfl ?_)); (fail_if_success (with_reducible refine stop_copy rfl ?_)); first | go_values | go_skip | go_guarded | go_step | go_upon | (simp only []; go_at_K))
            refine quiet_gu (by kernel_rfl) (by kernel_rfl) ?_
            repeat (go_big_quiet_step (exact CW _))
            refine wpQuiet_nil ?_
            rintro _ ⟨p, rfl⟩
            repeat' ((fail_if_success (with_reducible refine stop_append rfl ?_)); (fail_if_success (with_reducible refine stop_copy rfl ?_)); first | go_values | go_skip | go_guarded | go_step | go_upon | (simp only []; go_at_K))
            all_goals exact ⟨⟨i + 1, by omega, by rw [HW.out], by simp, U5.trans p.u⟩, by simp [intOf]; omega⟩
          · have hz2 : decide ((0 : Int) < (i : Int)) = true := decide_eq_true (by omega)
            have hz3 : decide (0 < i) = true := decide_eq_true (by omega)
            have hk : i - 1 + 1 = i := by omega
            have hi1 : IntKind.i64.wrap ((i : Int) - 1) = ((i - 1 : Nat) : Int) := by rw [IntKind.wrap_i64]; omega
            have hil1 : ((i - 1 : Nat) : Int) < (ps.length : Int) := by omega
            have hcq : ∀ p : GU w5, p.w.cell? (ad.add (i - 1)) = some (.int .i64 ps[i - 1]) := fun p => hcpw p _ hk
            have hpr := hprev _ hk
            obtain ⟨pj, hpj⟩ : ∃ pj, ps[i - 1] = pj := ⟨_, rfl⟩
            rw [hpj] at hpr
            simp only [hpj] at hcq
            have hlt1 : decide (pj < pi) = sell := by
              have := HS.out
              cases sell
              · subst this; have := better_desc.1 hpr; exact decide_eq_false (by omega)
              · subst this; have := better_asc.1 hpr; exact decide_eq_true (by omega)
            have hne : (pi == pj) = false := by
              have := HS.out
              cases sell
              · subst this; have := better_desc.1 hpr; exact beq_false_of_ne (by omega)
              · subst this; have := better_asc.1 hpr; exact beq_false_of_ne (by omega)
            clear hprev hcp5 hc5 hcpw hh5 C hpj hpr hk h0
            cases sell
            all_goals
              repeat' ((fail_if_success (with_reducible refine stop_append rfl ?_)); (fail_if_success (with_reducible refine stop_copy rfl ?_)); first | go_values | go_skip | go_guarded | go_step | go_upon | (simp only []; go_at_K))
              refine quiet_gu (by kernel_rfl) (by kernel_rfl) ?_
              repeat (go_big_quiet_step (exact CW _))
              refine wpQuiet_nil ?_
              rintro _ ⟨p, rfl⟩
              repeat' ((fail_if_success (with_reducible refine stop_append rfl ?_)); (fail_if_success (with_reducible refine stop_copy rfl ?_)); first | go_values | go_skip | go_guarded | go_step | go_upon | (simp only []; go_at_K))
              all_goals exact ⟨⟨i + 1, by omega, by rw [HW.out], by simp, U5.trans p.u⟩, by simp [intOf]; omega⟩
        · obtain rfl : i = ps.length := by omega
          have hil : ¬ ((ps.length : Int) < (ps.length : Int)) := by omega
          have hfl : (ps.flatMap fun p => atP p L) = L := (hps.flat hris).symm
          have htk : ps.take ps.length = ps := List.take_of_length_le (Nat.le_refl _)
          rw [htk, hfl, HT.out]
          have hmul : (j : Int) * ((j : Int) + 3) = 2 * tot := by rw [← HT.out]; exact HSum.out.symm
          have hw99 : (Lit.int .i64 99).wf = true := rfl
          have C := fun W (hW : SideS W g s bo br R L) => sideAt W g bo br s R L hW 99 hw99
          rw [H99.out] at C
          clear htk hfl
          have hx : ∃ y : Int, y = (j : Int) * ((j : Int) + 3) := ⟨_, rfl⟩
          repeat' ((fail_if_success (with_reducible refine stop_append rfl ?_)); (fail_if_success (with_reducible refine stop_copy rfl ?_)); first | go_values | go_skip | go_guarded | go_step | go_upon | (simp only []; go_at_K))
          · ((with_reducible refine (C _ (h4.upd0 U)).mono ?_); rintro e w6 ⟨rfl, hu6⟩)
            repeat' ((fail_if_success (with_reducible refine stop_append rfl ?_)); (fail_if_success (with_reducible refine stop_copy rfl ?_)); first | go_values | go_skip | go_guarded | go_step | go_upon | (simp only []; go_at_K))
            go_ret
            exact ⟨rfl, U4.trans (U.trans hu6)⟩
end Go.Proofs.Ytlkgmedkphcjpaa
