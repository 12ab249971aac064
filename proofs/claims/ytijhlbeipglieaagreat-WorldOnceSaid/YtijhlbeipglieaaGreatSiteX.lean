/- Layer 23: begin. -/
import Derived.Test.YtijhlbeipglieaaGreatPkSiteV
namespace Agio
open Go
theorem upd_set2 (w : World) (g : Nat) (v0 v1 : Value) : Upd [g] [g] w ((w.setCell ⟨g, 0, none⟩ v0).setCell ⟨g, 1, none⟩ v1) := ((Upd.refl [g] w).setCell (p := ⟨g, 0, none⟩) (.inl (by simp)) v0).setCell (p := ⟨g, 1, none⟩) (.inl (by simp)) v1
theorem blk_set2 {w : World} {g : Nat} {t : TypeId} {x0 x1 : Value} (h : Blk w g t #[x0, x1]) (v0 v1 : Value) : Blk ((w.setCell ⟨g, 0, none⟩ v0).setCell ⟨g, 1, none⟩ v1) g t #[v0, v1] := (h.set_ 0 v0).set_ 1 v1
theorem Bl.next_may {b : Bl} (h : b.may 7 = true) {me : Nat} (hm : me ≤ 6) : (b.next me).may 7 = true := by
  have := Bl.may7.1 h
  unfold Bl.next
  split
  · omega
  · split
    · exact Bl.may7.2 (by simp only; omega)
    · exact Bl.may7.2 (by simp only; omega)
theorem Site.promise_fr {s t : Site} {x : Int} {b : Bl} (h : s.promise x b = some t) : t.me = s.me ∧ t.n = s.n ∧ t.held = s.held ∧ t.rs = s.rs ∧ t.stat x = { s.stat x with p := b } := by
  unfold Site.promise Site.note at h
  split at h
  · cases h
  · split at h
    · injection h with h
      rw [← h]
      refine ⟨rfl, rfl, rfl, rfl, ?_⟩
      show (lookG x (putG x _ _)).getD _ = _
      rw [lookG_put, if_pos rfl]
      rfl
    · cases h
theorem Site.answer_fit {s : Site} (h : s.Ok) {x : Int} (hx : 0 ≤ x ∧ x < 4096) {b : Bl} (hb : b.may 7 = true) (hf : (s.stat x).so = true ∨ (s.stat x).at_ = ⟨0, 0⟩ ∧ (s.stat x).b = []) : (s.answer x b).Fit := by
  have h1 := Bl.may7.1 hb
  obtain ⟨h2, -, h3⟩ := h.stat x
  have h4 := Bl.may7.1 h3
  refine ⟨by simp [Site.answer], by simp, by simp, by simp [Site.answer]; omega, by simpa [Site.answer] using h1.1, by simpa [Site.answer] using h1.2, by simpa [Site.answer] using h4.1, by simpa [Site.answer] using h4.2, by simpa [Site.answer] using h2, ?_⟩
  rcases hf with hf | ⟨hf, hg⟩
  · exact .inl hf
  · right; simp [Site.answer, hf, hg]
end Agio
namespace Go.Proofs.YtijhlbeipglieaaGreat
open Go.RowKit Agio Go.Maps

theorem SiteV.low_pl (M : SiteV) (x : Int) : M.pl.low x = match lookG x M.rs with | some r => (if 0 < cmpB r.bal (M.sta x).p then r.bal else (M.sta x).p) | none => (M.sta x).p := by
  unfold Site.low
  rw [show lookG x M.pl.rs = (lookG x M.rs).map RnV.pl from lookG_map _ _ _, ← SiteV.sta_pl]
  cases lookG x M.rs <;> rfl
variable [Ban]
set_option maxRecDepth 100000 in
set_option maxHeartbeats 4000000 in
theorem siteBegin (w : World) (M : SiteV) (h : SiteS w M) (x : Int) (hx : 0 ≤ x ∧ x < 4096) (hl : M.held.length ≤ 800000000) (hlow : (M.pl.low x).may 7 = true)
    (hfit : (M.pl.stat x).so = true ∨ (M.pl.stat x).at_ = ⟨0, 0⟩ ∧ (M.pl.stat x).b = []) :
    Calls Tryz.prog 98 #[M.ptr, .int .i64 x] w fun e w' => e = .returned (.tuple #[]) ∧ Gone w w' M (M.pl.begin_ x) := by
  have hwf : (Lit.int .i64 x).wf = true := wfI (by omega) (by omega)
  have hlk := h.look hwf
  have q5 : w.cell? ⟨M.gs, 5, none⟩ = some (.map (some M.bs)) := h.blk.cell 5
  obtain ⟨W, H, eW, hH, hB, U0⟩ := boxes1 w 30 #[.int .i64 (M.sta x).p.r, .int .i64 (M.sta x).p.s]
  have h1 := h.upd0 U0
  have U0' := U0.gives (b' := []) (by simp)
  have q8 : W.cell? ⟨M.gs, 8, none⟩ = some (.map (some M.br)) := h1.blk.cell 8
  have hlr := h1.lookR hwf
  have HLOW := Lib.hid (SiteV.low_pl M x)
  obtain ⟨pt, hpt⟩ : ∃ pt, ((lookG x M.rs).map RnV.ptr).getD (.pointer none) = pt := ⟨_, rfl⟩
  obtain ⟨th, hth⟩ : ∃ th, (lookG x M.rs).isSome = th := ⟨_, rfl⟩
  rw [hpt, hth] at hlr
  have HPT := Lib.hid hpt
  have HTH := Lib.hid hth
  clear hpt hth
  obtain ⟨L, hL⟩ : ∃ L, M.pl.low x = L := ⟨_, rfl⟩
  rw [hL] at HLOW hlow
  have HB0 := Lib.hid (show M.pl.begin_ x = if cmpB (L.next M.me) L ≤ 0 then M.pl else match M.pl.promise x (L.next M.me) with
      | none => M.pl
      | some t => ((({ t with rs := putG x ⟨L.next M.me, [], false, [], [], 0⟩ t.rs } : Site).others (Site.asks ⟨L.next M.me, [], false, [], [], 0⟩ x) M.n).send
          (({ t with rs := putG x ⟨L.next M.me, [], false, [], [], 0⟩ t.rs } : Site).others (Site.asks ⟨L.next M.me, [], false, [], [], 0⟩ x) M.n).me
          ((({ t with rs := putG x ⟨L.next M.me, [], false, [], [], 0⟩ t.rs } : Site).others (Site.asks ⟨L.next M.me, [], false, [], [], 0⟩ x) M.n).answer x (L.next M.me))) by
    unfold Site.begin_
    rw [hL]; rfl)
  obtain ⟨R, hR⟩ : ∃ R, M.pl.begin_ x = R := ⟨_, rfl⟩
  rw [hR] at HB0 ⊢
  have hst : (M.sta x).pl = M.pl.stat x := SiteV.sta_pl M x
  clear hR hL
  rw [SiteV.ptr]
  simp only [Sta.val] at hlk
  have hfld : ∀ (w : World) (r s : Int) (so : Bool) (ar as_ : Int) (A : Option Addr) (n c : Nat), (Instr.field 37 (.agg #[.int .i64 r, .int .i64 s, .bool so, .int .i64 ar, .int .i64 as_, .slice A n c]) 0).run Tryz.prog w = .ok (.agg #[.int .i64 r, .int .i64 s]) w := fun _ _ _ _ _ _ _ _ _ => by kernel_rfl
  obtain ⟨P, hP⟩ : ∃ P, (M.sta x).p = P := ⟨_, rfl⟩
  rw [hP] at hlk hB HLOW eW
  go_enter Tryz.func98, Tryz.ntmps98
  repeat' ((fail_if_success (with_reducible refine stop_append rfl ?_)); first | go_values | go_skip | go_guarded | go_step | go_upon | (simp only []; go_at_K))
  obtain ⟨D, hD⟩ : ∃ D, (match lookG x M.rs with | some r => decide (0 < cmpB r.bal P) | none => false) = D := ⟨_, rfl⟩
  have HD := Lib.hid hD
  clear hD
  go_cut [36] from 27 (fun s36 wc => s36 = .bool D ∧ Upd [] [] W wc)
  case first =>
    cases hq : lookG x M.rs with
    | none =>
      simp only [hq, Option.map_none, Option.getD_none, Option.isSome_none] at HD HPT HTH
      obtain rfl := HPT.out
      obtain rfl := HTH.out
      have hDf := HD.out
      subst hDf
      refine quiet_gu (by kernel_rfl) (by kernel_rfl) ?_
      repeat (go_big_quiet_step (fail))
      refine wpQuiet_nil ?_
      rintro _ ⟨p, rfl⟩
      repeat' ((fail_if_success (with_reducible refine stop_append rfl ?_)); first | go_values | go_skip | go_guarded | go_step | go_upon | (simp only []; go_at_K))
      go_meet
      exact ⟨rfl, p.u⟩
    | some r =>
      simp only [hq, Option.map_some, Option.getD_some, Option.isSome_some] at HD HPT HTH
      obtain rfl := HPT.out
      obtain rfl := HTH.out
      have hDf := HD.out
      subst hDf
      rw [RnV.ptr]
      have hRr := h1.rds _ (lookG_some hq)
      have c0 : ∀ p : GU W, p.w.cell? ⟨r.g, 0, none⟩ = some (.int .i64 r.bal.r) := fun p => p.u.cell (hRr.blk.cell 0) (by simp)
      have c1 : ∀ p : GU W, p.w.cell? ⟨r.g, 1, none⟩ = some (.int .i64 r.bal.s) := fun p => p.u.cell (hRr.blk.cell 1) (by simp)
      have d0 : ∀ p : GU W, p.w.cell? ⟨H, 0, none⟩ = some (.int .i64 P.r) := fun p => p.u.cell (hB.cell 0) (by simp)
      have d1 : ∀ p : GU W, p.w.cell? ⟨H, 1, none⟩ = some (.int .i64 P.s) := fun p => p.u.cell (hB.cell 1) (by simp)
      have CW : ∀ p : GU W, Calls Tryz.prog 164 #[.agg #[.int .i64 r.bal.r, .int .i64 r.bal.s], .agg #[.int .i64 P.r, .int .i64 P.s]] p.w fun e w' => e = .returned (.int .i64 (cmpB r.bal P)) ∧ ∃ q : GU W, w' = q.w :=
        fun p => p.call (ballotCompare _ r.bal P)
      refine quiet_gu (by kernel_rfl) (by kernel_rfl) ?_
      repeat (go_big_quiet_step (exact CW _))
      refine wpQuiet_nil ?_
      rintro _ ⟨p, rfl⟩
      repeat' ((fail_if_success (with_reducible refine stop_append rfl ?_)); first | go_values | go_skip | go_guarded | go_step | go_upon | (simp only []; go_at_K))
      go_meet
      exact ⟨rfl, p.u⟩
  case rest =>
    obtain ⟨rfl, UD⟩ := hcut
    have hBc := hB.upd UD (by simp)
    have h2 := h1.upd0 UD
    go_upto_if 36 with fail
    go_cut [4] from 27 (fun s4 wc => s4 = .pointer (some ⟨H, 0, none⟩) ∧ Blk wc H 30 #[.int .i64 L.r, .int .i64 L.s] ∧ Upd [] [] w wc)
    case first =>
      cases D with
      | false =>
        have hLP : L = P := by
          have h1 := HLOW.out
          have h2 := HD.out
          cases hq : lookG x M.rs with
          | none => simp only [hq] at h1; exact h1
          | some r =>
            simp only [hq, decide_eq_false_iff_not] at h1 h2
            rw [if_neg h2] at h1
            exact h1
        have KEY := Lib.hid (show Blk wc H 30 #[.int .i64 L.r, .int .i64 L.s] by rw [hLP]; exact hBc)
        clear hLP hBc
        repeat' ((fail_if_success (with_reducible refine stop_append rfl ?_)); first | go_values | go_skip | go_guarded | go_step | go_upon | (simp only []; go_at_K))
        go_meet
        exact ⟨rfl, KEY.out, U0'.trans UD⟩
      | true =>
        cases hq : lookG x M.rs with
        | none => have h2 := HD.out; simp only [hq] at h2; cases h2
        | some r =>
          have h1' := HLOW.out
          have h2' := HD.out
          have h3' := HPT.out
          simp only [hq, decide_eq_true_eq] at h1' h2' h3'
          rw [if_pos h2'] at h1'
          simp only [Option.map_some, Option.getD_some] at h3'
          subst h1'
          subst h3'
          have hRr := h2.rds _ (lookG_some hq)
          have c0 : wc.cell? ⟨r.g, 0, none⟩ = some (.int .i64 r.bal.r) := hRr.blk.cell 0
          have c1 : wc.cell? ⟨r.g, 1, none⟩ = some (.int .i64 r.bal.s) := hRr.blk.cell 1
          obtain ⟨⟨d0, d1⟩, f0, f1⟩ := hBc.c2
          have KEY := Lib.hid (blk_set2 hBc (.int .i64 r.bal.r) (.int .i64 r.bal.s))
          have UK := Lib.hid ((U0'.trans UD).own (g := H) (by omega) (upd_set2 wc H (.int .i64 r.bal.r) (.int .i64 r.bal.s)))
          rw [RnV.ptr]
          clear hBc hRr h2' hq
          repeat' ((fail_if_success (with_reducible refine stop_append rfl ?_)); first | go_values | go_skip | go_guarded | go_step | go_upon | (simp only []; go_at_K))
          go_meet
          exact ⟨rfl, KEY.out, UK.out⟩
    case rest =>
      obtain ⟨rfl, hBL, UL⟩ := hcut
      clear hBc h2 UD h1 hB U0 U0' hlr hlk q5 q8
      have h3 := h.upd0 UL
      obtain ⟨b, hb⟩ : ∃ b, L.next M.me = b := ⟨_, rfl⟩
      rw [hb] at HB0
      have HBN := Lib.hid hb
      have CN : ∀ Wx : World, Calls Tryz.prog 165 #[.agg #[.int .i64 L.r, .int .i64 L.s], .int .i64 (M.me : Int)] Wx fun e w' => e = .returned (.agg #[.int .i64 b.r, .int .i64 b.s]) ∧ Upd [] [] Wx w' := fun Wx => by
        have := ballotNext Wx L M.me
        rw [hb] at this; exact this
      clear hb
      obtain ⟨Z, hZ⟩ : ∃ Z : World, wc.alloc (.cells #[.int .i64 0, .int .i64 0] 30) = Z := ⟨_, rfl⟩
      have UZ : Upd [] [] wc Z := by rw [← hZ]; exact (Upd.refl [] wc).alloc _
      have BZ : Blk Z wc.heap.size 30 #[.int .i64 0, .int .i64 0] := by rw [← hZ]; exact Blk.new _ _ _
      have hHs : H < wc.heap.size := hBL.lt
      have hBZ := hBL.upd UZ (by simp)
      obtain ⟨⟨p0, p1⟩, -⟩ := hBL.drew.c2
      obtain ⟨⟨r0, r1⟩, -⟩ := hBZ.drew.c2
      have q0 : wc.drew.cell? ⟨M.gs, 0, none⟩ = some (.int .i64 (M.me : Int)) := h3.blk.cell 0
      have s0 : Z.drew.cell? ⟨M.gs, 0, none⟩ = some (.int .i64 (M.me : Int)) := (h3.upd0 UZ).blk.cell 0
      have ULs := UL.size
      go_upto_region 4 with fail
      go_cut [7] from 41 (fun s7 wd => ∃ G : Nat, s7 = .pointer (some ⟨G, 0, none⟩) ∧ Blk wd G 30 #[.int .i64 b.r, .int .i64 b.s] ∧ Blk wd H 30 #[.int .i64 L.r, .int .i64 L.s] ∧ w.heap.size ≤ G ∧ Upd [] [] w wd)
      case first =>
        go_region_with (first
          | (go_at_call 165; (with_reducible refine (CN wc.drew).mono ?_); rintro e W1 ⟨rfl, hu⟩)
          | (go_at_call 165; (try rw [hZ]); (with_reducible refine (CN Z.drew).mono ?_); rintro e W1 ⟨rfl, hu⟩; have K := BZ.drew.upd hu (by simp); obtain ⟨⟨k0, k1⟩, e0, e1⟩ := K.c2)
          | (rw [hZ]))
        all_goals (repeat' ((fail_if_success (with_reducible refine stop_append rfl ?_)); first | go_values | go_skip | go_guarded | go_step | go_upon | (simp only []; go_at_K)))
        all_goals go_meet
        all_goals first
          | (have KK := blk_set2 K (.int .i64 b.r) (.int .i64 b.s)
             have u6 := upd_set2 W1 wc.heap.size (.int .i64 b.r) (.int .i64 b.s)
             have KL := (hBZ.drew.upd hu (by simp)).upd u6 (by simp only [List.mem_singleton]; omega)
             exact ⟨wc.heap.size, rfl, KK, KL, by omega, (UL.trans (((UZ.drew.trans hu).own (Nat.le_refl _) u6).gives (b' := []) (by simp)))⟩)
          | (have KK := Blk.new W1 30 #[.int .i64 b.r, .int .i64 b.s]
             have hs6 : wc.heap.size ≤ W1.heap.size := hu.size
             exact ⟨W1.heap.size, rfl, KK, (hBL.drew.upd hu (by simp)).alloc _, by omega, UL.trans (((Upd.refl [] wc).drew.trans hu).alloc _)⟩)
      case rest =>
        obtain ⟨G, rfl, hBG, hBL2, hGs, UG⟩ := hcut
        clear hBL CN UZ BZ hBZ p0 p1 r0 r1 q0 s0 hZ UL h3
        have h4 := h.upd0 UG
        have hfl := h.lt
        have hbm : b.may 7 = true := by rw [← HBN.out]; exact Bl.next_may hlow (by have := h.ok.me; have h7 := h.ok.n7; have e1 : M.pl.me = M.me := rfl; have e2 : M.pl.n = M.n := rfl; omega)
        obtain ⟨⟨g0, g1⟩, -⟩ := hBG.c2
        obtain ⟨⟨l0, l1⟩, -⟩ := hBL2.c2
        have CC := ballotCompare wc b L
        simp only [Bl.val] at CC
        repeat' ((fail_if_success (with_reducible refine stop_append rfl ?_)); first | go_values | go_skip | go_guarded | go_step | go_upon | (simp only []; go_at_K))
        ((with_reducible refine CC.mono ?_); rintro e w5 ⟨rfl, hu5⟩)
        have U5 := UG.trans hu5
        have h5 := h4.upd0 hu5
        have K5 := hBG.upd hu5 (by simp)
        clear CC g0 g1 l0 l1 h4 hBG hBL2 UG
        obtain ⟨⟨g0, g1⟩, -⟩ := K5.c2
        by_cases hc : cmpB b L ≤ 0
        · have dc : decide (cmpB b L ≤ 0) = true := decide_eq_true hc
          have hRM : R = M.pl := by rw [HB0.out, if_pos hc]
          have KEY := Lib.hid (show Gone w w5 M R from ⟨M, h5, hRM.symm, rfl, U5.up M.fp⟩)
          clear hRM h5 U5
          repeat' ((fail_if_success (with_reducible refine stop_append rfl ?_)); first | go_values | go_skip | go_guarded | go_step | go_upon | (simp only []; go_at_K))
          exact bodyPost_ret (v := .tuple #[]) (results_none rfl _ _ _) rfl ⟨rfl, KEY.out⟩
        · have dc : decide (cmpB b L ≤ 0) = false := decide_eq_false hc
          have C6 := sitePromise w5 M h5 x hx b hbm
          simp only [SiteV.ptr, Bl.val] at C6
          have hHG : G ∉ M.fp := fun hk => by have := hfl G hk; omega
          cases hacc : M.pl.promise x b with
          | none =>
            rw [hacc] at C6
            have HRM := Lib.hid (show R = M.pl by rw [HB0.out, if_neg hc, hacc])
            repeat' ((fail_if_success (with_reducible refine stop_append rfl ?_)); first | go_values | go_skip | go_guarded | go_step | go_upon | (simp only []; go_at_K))
            ((with_reducible refine C6.mono ?_); rintro e w6 ⟨rfl, M1, H6, hp6, hg6, -, U6⟩)
            have KEY := Lib.hid (show Gone w w6 M R from ⟨M1, H6, hp6.trans HRM.out.symm, hg6, (U5.up M.fp).trans U6⟩)
            clear C6 H6 U6 U5 h5
            repeat' ((fail_if_success (with_reducible refine stop_append rfl ?_)); first | go_values | go_skip | go_guarded | go_step | go_upon | (simp only []; go_at_K))
            exact bodyPost_ret (v := .tuple #[]) (results_none rfl _ _ _) rfl ⟨rfl, KEY.out⟩
          | some t =>
            rw [hacc] at C6
            have hRT := HB0.out
            rw [if_neg hc, hacc] at hRT
            have HRT := Lib.hid hRT
            obtain ⟨tm, tn, th', trs, tst⟩ := Site.promise_fr hacc
            clear hRT hacc hc
            repeat' ((fail_if_success (with_reducible refine stop_append rfl ?_)); first | go_values | go_skip | go_guarded | go_step | go_upon | (simp only []; go_at_K))
            ((with_reducible refine C6.mono ?_); rintro e w6 ⟨rfl, M1, H6, hp6, hg6, hr6, U6⟩)
            replace hp6 : M1.pl = t := hp6
            have K6 := K5.upd U6 hHG
            have hG1 := U6.notin hHG K5.lt
            have n1 : M1.n = M.n := (congrArg Site.n hp6).trans tn
            have U60 := (U5.up M.fp).trans U6
            have T6 : BytS w6 ⟨none, 0, 0, []⟩ := ⟨RdB.nil _ _, by simp [ablk]⟩
            clear C6 g0 g1 K5 U6 U5 h5
            obtain ⟨⟨g0, g1⟩, -⟩ := K6.c2
            obtain ⟨W8, G2, eW8, hG2, hBR, U8⟩ := boxes1 w6 132 #[.int .i64 b.r, .int .i64 b.s, .slice none 0 0, .bool false, .slice none 0 0, .slice none 0 0, .int .i64 0]
            have R8 : RnS W8 ⟨G2, b, none, 0, [], false, ⟨none, 0, 0, []⟩, none, 0, [], 0⟩ := ⟨hBR, Own.nil _ _ _, Own.nil _ _ _⟩
            have H8 := H6.upd0 U8
            obtain ⟨w9, hrun9, hm9, u9⟩ := H8.rnd.store Tryz.underlying3 Tryz.underlying119 (by rw [mapG_len]; have := H8.rsLen; unfold maxLen; omega) (x := x) hwf (RnV.ptr ⟨G2, b, none, 0, [], false, ⟨none, 0, 0, []⟩, none, 0, [], 0⟩)
            rw [putK_G, ← putG_map] at hm9
            obtain ⟨H9, V9⟩ := H6.newR (x := x) hx ⟨G2, b, none, 0, [], false, ⟨none, 0, 0, []⟩, none, 0, [], 0⟩ (w1 := W8) (by simpa [RnV.fp, ablk] using U8) R8 u9 hm9 (fun z hz => by
              simp only [RnV.bytes, List.map_nil, List.mem_singleton] at hz
              subst hz
              exact ⟨T6, by simp [ablk]⟩) ⟨by simp [RnV.pl], hbm, by simp [RnV.pl]⟩
            have q8 : W8.cell? ⟨M.gs, 8, none⟩ = some (.map (some M1.br)) := by rw [← hg6]; exact H8.blk.cell 8
            simp only [RnV.ptr] at hrun9
            obtain ⟨M3, hM3⟩ : ∃ M3 : SiteV, { M1 with rs := putG x ⟨G2, b, none, 0, [], false, ⟨none, 0, 0, []⟩, none, 0, [], 0⟩ M1.rs } = M3 := ⟨_, rfl⟩
            rw [hM3] at H9 V9
            have hp3 : M3.pl = { t with rs := putG x ⟨b, [], false, [], [], 0⟩ t.rs } := by
              rw [← hM3, show ({ M1 with rs := putG x ⟨G2, b, none, 0, [], false, ⟨none, 0, 0, []⟩, none, 0, [], 0⟩ M1.rs } : SiteV).pl = { M1.pl with rs := putG x (RnV.pl ⟨G2, b, none, 0, [], false, ⟨none, 0, 0, []⟩, none, 0, [], 0⟩) M1.pl.rs } from by unfold SiteV.pl; simp only [putG_map], hp6]
              rfl
            have hg3 : M3.gs = M.gs := by rw [← hM3]; exact hg6
            have hmem : (x, (⟨G2, b, none, 0, [], false, ⟨none, 0, 0, []⟩, none, 0, [], 0⟩ : RnV)) ∈ M3.rs := by rw [← hM3]; exact mem_putG.2 (.inl rfl)
            have n3 : M3.n = M.n := by rw [← hM3]; exact n1
            have hh3 : M3.held.length ≤ 900000000 := by have := congrArg (fun z : Site => z.held.length) hp3; simp only [SiteV.held_len, th'] at this; omega
            have K9 := K6.upd V9 hG1
            have hG3 := V9.notin hG1 K6.lt
            have U9 := U60.trans V9
            have C10 := siteAsks w9 _ (H9.rds _ hmem) x
            rw [show askV ⟨G2, b, none, 0, [], false, ⟨none, 0, 0, []⟩, none, 0, [], 0⟩ x = ⟨3, 0, 0, x, b.r, b.s, 0, 0, false, none, 0, 0, []⟩ from by simp [askV]] at C10
            have hms : Mv.ms ⟨3, 0, 0, x, b.r, b.s, 0, 0, false, none, 0, 0, []⟩ = Site.asks ⟨b, [], false, [], [], 0⟩ x := by simp [Site.asks, Mv.ms]
            have hfit3 : (Mv.ms ⟨3, 0, 0, x, b.r, b.s, 0, 0, false, none, 0, 0, []⟩).Fit := by rw [hms]; exact Site.asks_fit hx hbm (by simp)
            have C11 := fun (w10 : World) (hu : Upd [] [] w9 w10) => siteOthers w10 M3 (H9.upd0 hu) ⟨3, 0, 0, x, b.r, b.s, 0, 0, false, none, 0, 0, []⟩ hfit3 (RdB.nil _ _) (by simp [ablk]) hh3
            simp only [hms, hp3, n3] at C11
            simp only [SiteV.ptr, hg3, RnV.ptr, Mv.val_eq] at C10 C11
            clear hM3 R8 hBR H8 hm9 u9 T6 hmem H6 K6 U60 V9 hfit3 hms
            repeat' ((fail_if_success (with_reducible refine stop_append rfl ?_)); first | go_values | go_skip | go_guarded | go_step | go_upon | (simp only []; go_at_K))
            ((with_reducible refine C10.mono ?_); rintro e w10 ⟨rfl, hu10⟩)
            repeat' ((fail_if_success (with_reducible refine stop_append rfl ?_)); first | go_values | go_skip | go_guarded | go_step | go_upon | (simp only []; go_at_K))
            ((with_reducible refine (C11 w10 hu10).mono ?_); rintro e w11 ⟨rfl, M4, h11, p11, g11, -, U11⟩)
            have K11 := (K9.upd hu10 (by simp)).upd U11 hG3
            have g4 : M4.gs = M.gs := g11.trans hg3
            have st4 : M4.pl.stat x = { M.pl.stat x with p := b } := by rw [p11, Site.others_eq]; exact tst
            have me4 : M4.me = M.me := by
              have := congrArg Site.me p11
              rw [(Site.others_me _ _).1] at this
              exact this.trans tm
            have hh4 : M4.held.length ≤ 1000000000 := by
              have h1 : M4.held.length = M.held.length + (({ t with rs := putG x ⟨b, [], false, [], [], 0⟩ t.rs } : Site).tell (Site.asks ⟨b, [], false, [], [], 0⟩ x) M.n).length := by
                rw [← SiteV.held_len, p11, Site.others_eq]
                show (t.held ++ _).length = _
                rw [List.length_append, th', SiteV.held_len]
              have h7 := h.ok.n7
              have e2 : M.pl.n = M.n := rfl
              have := Site.tell_len ({ t with rs := putG x ⟨b, [], false, [], [], 0⟩ t.rs } : Site) (Site.asks ⟨b, [], false, [], [], 0⟩ x) M.n
              omega
            have hfit4 : (M4.ansV x b).ms.Fit := by rw [SiteV.ansV_ms]; exact Site.answer_fit h11.ok hx hbm (by rw [st4]; exact hfit)
            have C12 := siteAnswer w11.drew M4 h11.drew x hwf b
            have C13 := fun (w12 : World) (hu : Upd [] [] w11.drew w12) => siteSend w12 M4 (h11.drew.upd0 hu) (M.me : Int) (M4.ansV x b) hfit4 (by have := h.ok.me; have h7 := h.ok.n7; have e1 : M.pl.me = M.me := rfl; have e2 : M.pl.n = M.n := rfl; omega) (((h11.drew.upd0 hu).sta_in x).1.rd) hh4
            have z0 : w11.drew.cell? ⟨M.gs, 0, none⟩ = some (.int .i64 (M.me : Int)) := by rw [← g4, ← me4]; exact h11.blk.cell 0
            have U13 := ((U9.trans (hu10.up M3.fp)).trans U11).drew
            rw [SiteV.ansV_ms] at C13
            obtain ⟨av, hav⟩ : ∃ z, (M4.ansV x b).val = z := ⟨_, rfl⟩
            rw [hav] at C12
            simp only [hav, SiteV.ptr, g4] at C13
            simp only [SiteV.ptr, g4, Bl.val] at C12
            obtain ⟨⟨i0, i1⟩, -⟩ := K11.drew.c2
            have me5 : M4.pl.me = M.me := me4
            have hsend := p11
            have HRF := Lib.hid (show R = M4.pl.send M.me (M4.pl.answer x b) by
              rw [HRT.out]
              show Site.send (Site.others _ _ _) _ _ = _
              rw [← p11, me5])
            clear hav hfit4 hsend C10 C11 h11 K9 K11 H9 U11 hu10 U9 st4 p11 hp3 h hlow
            repeat' ((fail_if_success (with_reducible refine stop_append rfl ?_)); first | go_values | go_skip | go_guarded | go_step | go_upon | (simp only []; go_at_K))
            go_region_with (first
              | (go_at_call 167; (with_reducible refine C12.mono ?_); rintro e w12 ⟨rfl, u12⟩; have z1 := u12.cell z0 (by simp); have i2 := u12.cell i0 (by simp); have i3 := u12.cell i1 (by simp))
              | (go_at_call 64; (with_reducible refine (C13 w12 u12).mono ?_); rintro e w13 ⟨rfl, M5, h13, hp13, hg13, -, u13⟩))
            all_goals (repeat' ((fail_if_success (with_reducible refine stop_append rfl ?_)); first | go_values | go_skip | go_guarded | go_step | go_upon | (simp only []; go_at_K)))
            all_goals exact bodyPost_end (results_none rfl _ _ _) rfl ⟨rfl, M5, h13, hp13.trans HRF.out.symm, hg13.trans g4, (U13.trans (u12.up M4.fp)).trans u13⟩
end Go.Proofs.YtijhlbeipglieaaGreat
