/- Merged: SiteW, SiteV, SiteV2. -/
import Derived.Test.YtijhlbeipglieaaGreatPkSiteP
import Derived.Test.YtijhlbeipglieaaGreatPkSu
/- Layer 23: skip. -/
namespace Agio
open Go
namespace Site
theorem skips_fit {x : Int} {b : Bl} (hx : 0 ≤ x ∧ x < 4096) (hb : b.may 7 = true) : (skips x b).Fit := by
  have := Bl.may7.1 hb
  exact ⟨by simp [skips], by simp, by simp, by simp [skips]; omega, by simpa [skips] using this.1, by simpa [skips] using this.2, by simp [skips], by simp [skips], by simp [skips], by simp [skips]⟩
theorem skipF_stop (f c : Nat) (s : Site) (to : Int) (h : 8 ≤ c ∨ nextI s.me s.nx s.n < 0 ∨ to ≤ nextI s.me s.nx s.n) : skipF (f + 1) c s to = s := by
  unfold skipF
  split
  · rfl
  · rw [if_pos (by rcases h with h | h; · omega
                   · exact h)]
theorem skipF_none (f c : Nat) (s : Site) (to : Int) (hc : ¬ 8 ≤ c) (hx : ¬ (nextI s.me s.nx s.n < 0 ∨ to ≤ nextI s.me s.nx s.n)) (hf : s.fresh (nextI s.me s.nx s.n) = true) (ha : s.accept (nextI s.me s.nx s.n) s.ownB [] = none) : skipF (f + 1) c s to = s := by
  unfold skipF
  rw [if_neg hc, if_neg hx, if_pos hf, ha]
theorem skipF_some (f c : Nat) (s t : Site) (to : Int) (hc : ¬ 8 ≤ c) (hx : ¬ (nextI s.me s.nx s.n < 0 ∨ to ≤ nextI s.me s.nx s.n)) (hf : s.fresh (nextI s.me s.nx s.n) = true) (ha : s.accept (nextI s.me s.nx s.n) s.ownB [] = some t) :
    skipF (f + 1) c s to = skipF f (c + 1) (t.skip1 s.ownB (nextI s.me s.nx s.n)) to := by
  conv => lhs; unfold skipF
  rw [if_neg hc, if_neg hx, if_pos hf, ha]
theorem skipF_next (f c : Nat) (s : Site) (to : Int) (hc : ¬ 8 ≤ c) (hx : ¬ (nextI s.me s.nx s.n < 0 ∨ to ≤ nextI s.me s.nx s.n)) (hf : s.fresh (nextI s.me s.nx s.n) = false) :
    skipF (f + 1) c s to = skipF f c { s with nx := (nextI s.me s.nx s.n + 1).toNat } to := by
  conv => lhs; unfold skipF
  rw [if_neg hc, if_neg hx, if_neg (by rw [hf]; simp)]
end Site
end Agio
namespace Go.Proofs.YtijhlbeipglieaaGreat
open Go.RowKit Agio Go.Maps

def nxOf (w : World) (g : Nat) : Nat := match w.cell? ⟨g, 9, none⟩ with | some (.int _ x) => (4098 - x).toNat | _ => 0
variable [Ban]
theorem SiteS.nxOf {w : World} {M : SiteV} (h : SiteS w M) : Proofs.YtijhlbeipglieaaGreat.nxOf w M.gs = 4098 - M.nx := by
  have : w.cell? ⟨M.gs, 9, none⟩ = some (.int .i64 (M.nx : Int)) := h.blk.cell 9
  unfold Proofs.YtijhlbeipglieaaGreat.nxOf
  rw [this]
  show (4098 - (M.nx : Int)).toNat = _
  omega

set_option maxRecDepth 100000 in
set_option maxHeartbeats 4000000 in
theorem siteSkip (w : World) (M : SiteV) (h : SiteS w M) (to : Int) (hl : M.held.length ≤ 700000000) :
    Calls Tryz.prog 96 #[M.ptr, .int .i64 to] w fun e w' => e = .returned (.tuple #[]) ∧ Goes w w' M (M.pl.skip to) := by
  obtain ⟨R, hR⟩ : ∃ R, M.pl.skip to = R := ⟨_, rfl⟩
  have HR := Lib.hid (show Site.skipF 4098 0 M.pl to = R from hR)
  rw [hR]
  clear hR
  rw [SiteV.ptr]
  have hmn : M.me < M.n := h.ok.me
  have hn7 : M.n ≤ 7 := h.ok.n7
  go_enter Tryz.func96, Tryz.ntmps96
  repeat' ((fail_if_success (with_reducible refine stop_append rfl ?_)); first | go_values | go_skip | go_guarded | go_step | go_upon | (simp only []; go_at_K))
  go_loopw [4] (fun v4 wr => ∃ (c f : Nat) (M' : SiteV), v4 = .int .i64 (c : Int) ∧ c ≤ 8 ∧ SiteS wr M' ∧ Site.skipF f c M'.pl to = R ∧ 4098 ≤ f + M'.nx ∧ M'.gs = M.gs ∧ M'.rs = M.rs ∧ M'.me = M.me ∧ M'.n = M.n ∧ M'.held.length ≤ M.held.length + 10 * c ∧ Upd M.fp M'.fp w wr) (fun _ wr => nxOf wr M.gs)
  case atStart => exact ⟨0, 4098, M, rfl, by omega, h, HR.out, by omega, rfl, rfl, rfl, rfl, by omega, Upd.refl _ _⟩
  case round =>
    obtain ⟨c, f, M', rfl, hc8, h', hsk, hfn, hg, hrs, hme, hn, hhl, U⟩ := hrel
    have hnx : M'.nx ≤ 4096 := h'.ok.nx
    have HX0 := h'.nxOf
    rw [hg] at HX0
    obtain ⟨f', rfl⟩ : ∃ f', f = f' + 1 := ⟨f - 1, by omega⟩
    have HSK := Lib.hid hsk
    clear hsk HR
    by_cases hc : c < 8
    · have hci : (c : Int) < 8 := by omega
      have hcw : IntKind.i64.wrap ((c : Int) + 1) = (c : Int) + 1 := by rw [IntKind.wrap_i64]; omega
      have r0 : wr.drew.cell? ⟨M.gs, 0, none⟩ = some (.int .i64 (M.me : Int)) := by rw [← hg, ← hme]; exact h'.blk.cell 0
      have r1 : wr.drew.cell? ⟨M.gs, 1, none⟩ = some (.int .i64 (M.n : Int)) := by rw [← hg, ← hn]; exact h'.blk.cell 1
      have r9 : wr.drew.cell? ⟨M.gs, 9, none⟩ = some (.int .i64 (M'.nx : Int)) := by rw [← hg]; exact h'.blk.cell 9
      have C1 := slotsNext wr.drew M.me M'.nx M.n (by omega)
      obtain ⟨x, hx⟩ : ∃ x, nextI M.me M'.nx M.n = x := ⟨_, rfl⟩
      have hxr := nextI_range M.me M'.nx M.n
      rw [hx] at C1 hxr
      have hx' : nextI M'.pl.me M'.pl.nx M'.pl.n = x := by
        show nextI (M'.me : Int) M'.nx (M'.n : Int) = x
        rw [hme, hn]; exact hx
      have HX := Lib.hid hx'
      clear hx hx'
      repeat' ((fail_if_success (with_reducible refine stop_append rfl ?_)); first | go_values | go_skip | go_guarded | go_step | go_upon | (simp only []; go_at_K))
      go_still_tail 13, (by kernel_rfl)
      change wpList _ _ _ _ _ wr.drew
      repeat' ((fail_if_success (with_reducible refine stop_append rfl ?_)); first | go_values | go_skip | go_guarded | go_step | go_upon | (simp only []; go_at_K))
      ((with_reducible refine C1.mono ?_); rintro e w1 ⟨rfl, rfl⟩)
      clear C1
      have U1 : Upd M.fp M'.fp w wr.drew := U.drew
      have h1 := h'.drew
      clear U h' r0 r1 r9
      by_cases hstop : x < 0 ∨ to ≤ x
      · have hRM : R = M'.pl := by rw [← HSK.out, Site.skipF_stop _ _ _ _ (.inr (by rw [HX.out]; exact hstop))]
        have KEY := Lib.hid (show Goes w wr.drew M R from ⟨M', h1, hRM.symm, hg, hrs, U1⟩)
        clear hRM h1 U1
        by_cases hx0 : x < 0
        · have d0 : decide (x < 0) = true := decide_eq_true hx0
          repeat' ((fail_if_success (with_reducible refine stop_append rfl ?_)); first | go_values | go_skip | go_guarded | go_step | go_upon | (simp only []; go_at_K))
          exact bodyPost_ret (v := .tuple #[]) (results_none rfl _ _ _) rfl ⟨rfl, KEY.out⟩
        · have d0 : decide (x < 0) = false := decide_eq_false hx0
          have d1 : decide (to ≤ x) = true := decide_eq_true (by omega)
          repeat' ((fail_if_success (with_reducible refine stop_append rfl ?_)); first | go_values | go_skip | go_guarded | go_step | go_upon | (simp only []; go_at_K))
          exact bodyPost_ret (v := .tuple #[]) (results_none rfl _ _ _) rfl ⟨rfl, KEY.out⟩
      · have d0 : decide (x < 0) = false := decide_eq_false (by omega)
        have d1 : decide (to ≤ x) = false := decide_eq_false (by omega)
        have hxb : (M'.nx : Int) ≤ x ∧ x < 4096 := by rcases hxr with h9 | h9 <;> omega
        have hw7 : IntKind.i64.wrap (x + 1) = x + 1 := by rw [IntKind.wrap_i64]; omega
        have hyn : (((x + 1).toNat : Nat) : Int) = x + 1 := by omega
        have C2 := siteFresh wr.drew M' h1 x (wfI (by omega) (by omega))
        have HXP := Lib.hid (show ¬ (nextI M'.pl.me M'.pl.nx M'.pl.n < 0 ∨ to ≤ nextI M'.pl.me M'.pl.nx M'.pl.n) by rw [HX.out]; exact hstop)
        obtain ⟨F, hF⟩ : ∃ F, M'.pl.fresh x = F := ⟨_, rfl⟩
        have HF := Lib.hid (show M'.pl.fresh (nextI M'.pl.me M'.pl.nx M'.pl.n) = F by rw [HX.out]; exact hF)
        rw [hF, SiteV.ptr, hg] at C2
        clear hF hxr hstop
        have hob : (⟨0, M.me⟩ : Bl).may 7 = true := by
          have := h1.ok.own
          rw [show M'.pl.ownB = (⟨0, M.me⟩ : Bl) by unfold Site.ownB; show (⟨0, (M'.me : Int)⟩ : Bl) = _; rw [hme]] at this
          exact this
        cases F with
        | false =>
          repeat' ((fail_if_success (with_reducible refine stop_append rfl ?_)); first | go_values | go_skip | go_guarded | go_step | go_upon | (simp only []; go_at_K))
          ((with_reducible refine C2.mono ?_); rintro e w3 ⟨rfl, hu3⟩)
          have h3 := h1.upd0 hu3
          have t9 : w3.cell? ⟨M.gs, 9, none⟩ = some (.int .i64 (M'.nx : Int)) := by rw [← hg]; exact h3.blk.cell 9
          have f9 : w3.frozen? ⟨M.gs, 9, none⟩ = false := by rw [← hg]; exact h3.blk.frozen 9
          have u7 : Upd [M'.gs] [M'.gs] w3 (w3.setCell ⟨M'.gs, 9, none⟩ (.int .i64 (x + 1))) := (Upd.refl [M'.gs] w3).setCell (p := ⟨M'.gs, 9, none⟩) (.inl (by simp)) _
          have hB7 := h3.blk.set_ 9 (.int .i64 (x + 1))
          have h7 := h3.scal M'.down M'.top (x + 1).toNat u7 (by simpa [SiteV.cells, hyn] using hB7) (h3.ok.setNx (k := (x + 1).toNat) (by omega))
          obtain ⟨M7, hM7⟩ : ∃ M7 : SiteV, { M' with down := M'.down, top := M'.top, nx := (x + 1).toNat } = M7 := ⟨_, rfl⟩
          rw [hM7] at h7
          have hp7 : M7.pl = { M'.pl with nx := (x + 1).toNat } := by rw [← hM7]; rfl
          have hs7 : M7.nx = (x + 1).toNat ∧ M7.gs = M'.gs ∧ M7.rs = M'.rs ∧ M7.me = M'.me ∧ M7.n = M'.n ∧ M7.held = M'.held ∧ M7.fp = M'.fp := by rw [← hM7]; exact ⟨rfl, rfl, rfl, rfl, rfl, rfl, rfl⟩
          clear hM7
          have U7 := (U1.trans (hu3.up _)).trans (u7.mono (a' := M'.fp) (b' := M'.fp) (fun k hk => by simp only [List.mem_singleton] at hk; subst hk; simp [SiteV.fp]) (fun k hk => .inr (.inl hk)))
          have HN7 := h7.nxOf
          have hS := Site.skipF_next f' c M'.pl to (by omega) HXP.out HF.out
          rw [HSK.out, HX.out, ← hp7] at hS
          obtain ⟨s1, s2, s3, s4, s5, s6, s7⟩ := hs7
          rw [← s7] at U7
          rw [s2, s1] at HN7
          have KEY := Lib.hid (show ∃ (c' f : Nat) (M2 : SiteV), Value.int .i64 (c : Int) = .int .i64 (c' : Int) ∧ c' ≤ 8 ∧ SiteS (w3.setCell ⟨M.gs, 9, none⟩ (.int .i64 (x + 1))) M2 ∧ Site.skipF f c' M2.pl to = R ∧ 4098 ≤ f + M2.nx ∧ M2.gs = M.gs ∧ M2.rs = M.rs ∧ M2.me = M.me ∧ M2.n = M.n ∧ M2.held.length ≤ M.held.length + 10 * c' ∧ Upd M.fp M2.fp w (w3.setCell ⟨M.gs, 9, none⟩ (.int .i64 (x + 1))) from
            ⟨c, f', M7, rfl, hc8, by rw [← hg]; exact h7, hS.symm, by omega, s2.trans hg, s3.trans hrs, s4.trans hme, s5.trans hn, by rw [s6]; exact hhl, by rw [← hg, s7]; rw [s7] at U7; exact U7⟩)
          have KM := Lib.hid (show nxOf (w3.setCell ⟨M.gs, 9, none⟩ (.int .i64 (x + 1))) M.gs < nxOf wr M.gs by
            have e1 : nxOf (w3.setCell ⟨M.gs, 9, none⟩ (.int .i64 (x + 1))) M.gs = 4098 - (x + 1).toNat := by rw [← hg]; exact HN7
            rw [e1, HX0]; omega)
          clear C2 h1 h3 u7 hB7 h7 U7 HN7 hS hu3 U1 s1 s2 s3 s4 s5 s6 s7
          repeat' ((fail_if_success (with_reducible refine stop_append rfl ?_)); first | go_values | go_skip | go_guarded | go_step | go_upon | (simp only []; go_at_K))
          exact ⟨KEY.out, KM.out⟩
        | true =>
          have hgs0 : M.gs ∈ M'.fp := by rw [← hg]; simp [SiteV.fp]
          repeat' ((fail_if_success (with_reducible refine stop_append rfl ?_)); first | go_values | go_skip | go_guarded | go_step | go_upon | (simp only []; go_at_K))
          ((with_reducible refine C2.mono ?_); rintro e w3 ⟨rfl, hu3⟩)
          have h3 := h1.upd0 hu3
          have r0 : w3.cell? ⟨M.gs, 0, none⟩ = some (.int .i64 (M.me : Int)) := by rw [← hg, ← hme]; exact h3.blk.cell 0
          obtain ⟨Wb, Hb, eWb, hHb, hBb, Ub⟩ := boxes1 w3 30 #[.int .i64 0, .int .i64 (M.me : Int)]
          have h4 := h3.upd0 Ub
          have U4 := (U1.trans (hu3.up _)).trans ((Ub.gives (b' := []) (by simp)).up M'.fp)
          have hHf : Hb ∉ M'.fp := fun hk => by have := h3.lt Hb hk; omega
          have C6 := siteAccept Wb M' h4 x (by omega) ⟨0, M.me⟩ hob none 0 0 [] (RdB.nil _ _) (by simp [ablk]) (by simp)
          have hown : M'.pl.ownB = (⟨0, M.me⟩ : Bl) := by unfold Site.ownB; show (⟨0, (M'.me : Int)⟩ : Bl) = _; rw [hme]
          simp only [SiteV.ptr, Bl.val, hg] at C6
          obtain ⟨⟨b0, b1⟩, -⟩ := hBb.c2
          clear C2 h3 hu3 U1 Ub
          cases hacc : M'.pl.accept x ⟨0, M.me⟩ [] with
          | none =>
            rw [hacc] at C6
            have hRM : R = M'.pl := by rw [← HSK.out, Site.skipF_none _ _ _ _ (by omega) HXP.out HF.out (by rw [HX.out, hown]; exact hacc)]
            have HRM := Lib.hid hRM
            clear hRM
            repeat' ((fail_if_success (with_reducible refine stop_append rfl ?_)); first | go_values | go_skip | go_guarded | go_step | go_upon | (simp only []; go_at_K))
            ((with_reducible refine C6.mono ?_); rintro e w6 ⟨rfl, M1, H6, hp6, hg6, hr6, U6⟩)
            have KEY := Lib.hid (show Goes w w6 M R from ⟨M1, H6, hp6.trans HRM.out.symm, hg6.trans hg, hr6.trans hrs, U4.trans U6⟩)
            clear C6 H6 U6 U4
            repeat' ((fail_if_success (with_reducible refine stop_append rfl ?_)); first | go_values | go_skip | go_guarded | go_step | go_upon | (simp only []; go_at_K))
            exact bodyPost_ret (v := .tuple #[]) (results_none rfl _ _ _) rfl ⟨rfl, KEY.out⟩
          | some t =>
            rw [hacc] at C6
            have hS := Site.skipF_some f' c M'.pl t to (by omega) HXP.out HF.out (by rw [HX.out, hown]; exact hacc)
            rw [HSK.out, HX.out, hown] at hS
            have HS := Lib.hid hS
            obtain ⟨tm, tn, th, -, -, -, -⟩ := Site.accept_fr hacc
            clear hS hacc
            repeat' ((fail_if_success (with_reducible refine stop_append rfl ?_)); first | go_values | go_skip | go_guarded | go_step | go_upon | (simp only []; go_at_K))
            ((with_reducible refine C6.mono ?_); rintro e w6 ⟨rfl, M1, H6, hp6, hg6, hr6, U6⟩)
            replace hp6 : M1.pl = t := hp6
            have g1 : M1.gs = M.gs := hg6.trans hg
            have me1 : M1.me = M.me := (congrArg Site.me hp6).trans (tm.trans hme)
            have n1 : M1.n = M.n := (congrArg Site.n hp6).trans (tn.trans hn)
            have l1 : M1.held.length = M'.held.length := by have := congrArg (fun z : Site => z.held.length) hp6; simp only [SiteV.held_len, th] at this; exact this
            have K6 := hBb.upd U6 hHf
            have hHf1 := U6.notin hHf hBb.lt
            clear b0 b1
            obtain ⟨⟨b0, b1⟩, -⟩ := K6.c2
            clear C6
            repeat' ((fail_if_success (with_reducible refine stop_append rfl ?_)); first | go_values | go_skip | go_guarded | go_step | go_upon | (simp only []; go_at_K))
            obtain ⟨W7, G, eW7, hG, hBG, U7⟩ := boxes1 w6 32 #[.int .i64 2, .int .i64 0, .int .i64 0, .int .i64 x, .int .i64 0, .int .i64 (M.me : Int), .int .i64 0, .int .i64 0, .bool false, .slice none 0 0]
            rw [eW7, hG]
            have h7 := H6.upd0 U7
            have hGf : G ∉ M1.fp := fun hk => by have := H6.lt G hk; omega
            have hfit : (Mv.ms ⟨2, 0, 0, x, 0, M.me, 0, 0, false, none, 0, 0, []⟩).Fit := Site.skips_fit (x := x) (b := ⟨0, M.me⟩) (by omega) hob
            have C8 := siteOthers W7 M1 h7 ⟨2, 0, 0, x, 0, M.me, 0, 0, false, none, 0, 0, []⟩ hfit (RdB.nil _ _) (by simp [ablk]) (by omega)
            have hms : Mv.ms ⟨2, 0, 0, x, 0, M.me, 0, 0, false, none, 0, 0, []⟩ = Site.skips x ⟨0, M.me⟩ := rfl
            rw [hms, hp6, n1] at C8
            simp only [SiteV.ptr, Mv.val_eq, g1] at C8
            obtain ⟨⟨m0, m1, m2, m3, m4, m5, m6, m7, m8, m9⟩, -⟩ := hBG.c10
            have U67 := (U4.trans U6).trans ((U7.gives (b' := []) (by simp)).up M1.fp)
            clear H6 U6 U4 K6 hBb U7
            ((with_reducible refine C8.mono ?_); rintro e w8 ⟨rfl, M2, h8, hp8, hg8, hr8, U8⟩)
            have K8 := hBG.upd U8 hGf
            clear m0 m1 m2 m3 m4 m5 m6 m7 m8 m9 C8
            have me2 : M2.me = M.me := by
              have := congrArg Site.me hp8
              rw [(Site.others_me _ _).1] at this
              exact this.trans (tm.trans hme)
            have n2 : M2.n = M.n := by
              have := congrArg Site.n hp8
              rw [(Site.others_me _ _).2] at this
              exact this.trans (tn.trans hn)
            have l2 : M2.held.length ≤ M'.held.length + 7 := by
              have e1 := congrArg (fun z : Site => z.held.length) hp8
              simp only [SiteV.held_len, Site.others_eq, List.length_append, th] at e1
              have e2 := Site.tell_len t (Site.skips x ⟨0, M.me⟩) M.n
              omega
            have s0 : w8.drew.cell? ⟨M.gs, 0, none⟩ = some (.int .i64 (M.me : Int)) := by rw [← g1, ← hg8, ← me2]; exact h8.blk.cell 0
            obtain ⟨⟨m0, m1, m2, m3, m4, m5, m6, m7, m8, m9⟩, -⟩ := K8.drew.c10
            have C9 := siteSend w8.drew M2 h8.drew (M.me : Int) ⟨2, 0, 0, x, 0, M.me, 0, 0, false, none, 0, 0, []⟩ hfit (by omega) (RdB.nil _ _) (by omega)
            rw [hms, hp8] at C9
            simp only [SiteV.ptr, Mv.val_eq, hg8, g1] at C9
            repeat' ((fail_if_success (with_reducible refine stop_append rfl ?_)); first | go_values | go_skip | go_guarded | go_step | go_upon | (simp only []; go_at_K))
            go_still_tail 6, (by kernel_rfl)
            change wpList _ _ _ _ _ w8.drew
            repeat' ((fail_if_success (with_reducible refine stop_append rfl ?_)); first | go_values | go_skip | go_guarded | go_step | go_upon | (simp only []; go_at_K))
            ((with_reducible refine C9.mono ?_); rintro e w9 ⟨rfl, M3, h9, hp9, hg9, hr9, U9⟩)
            clear m0 m1 m2 m3 m4 m5 m6 m7 m8 m9 C9 K8 s0
            have g3 : M3.gs = M.gs := hg9.trans (hg8.trans g1)
            have me3 : M3.me = M.me := by have := congrArg Site.me hp9; exact this.trans ((Site.others_me _ _).1.trans (tm.trans hme))
            have n3 : M3.n = M.n := by have := congrArg Site.n hp9; exact this.trans ((Site.others_me _ _).2.trans (tn.trans hn))
            have l3 : M3.held.length ≤ M'.held.length + 8 := by
              have e1 := congrArg (fun z : Site => z.held.length) hp9
              rw [← hp8] at e1
              simp only [SiteV.held_len, Site.send, List.length_append, List.length_cons, List.length_nil] at e1
              omega
            have u7 : Upd [M3.gs] [M3.gs] w9 (w9.setCell ⟨M3.gs, 9, none⟩ (.int .i64 (x + 1))) := (Upd.refl [M3.gs] w9).setCell (p := ⟨M3.gs, 9, none⟩) (.inl (by simp)) _
            have hB7 := h9.blk.set_ 9 (.int .i64 (x + 1))
            have t9 : w9.cell? ⟨M.gs, 9, none⟩ = some (.int .i64 (M3.nx : Int)) := by rw [← g3]; exact h9.blk.cell 9
            have f9 : w9.frozen? ⟨M.gs, 9, none⟩ = false := by rw [← g3]; exact h9.blk.frozen 9
            have h10 := h9.scal M3.down M3.top (x + 1).toNat u7 (by simpa [SiteV.cells, hyn] using hB7) (h9.ok.setNx (k := (x + 1).toNat) (by omega))
            obtain ⟨M4, hM4⟩ : ∃ M4 : SiteV, { M3 with down := M3.down, top := M3.top, nx := (x + 1).toNat } = M4 := ⟨_, rfl⟩
            rw [hM4] at h10
            have hp10 : M4.pl = t.skip1 ⟨0, M.me⟩ x := by
              have e1 : M4.pl = { M3.pl with nx := (x + 1).toNat } := by rw [← hM4]; rfl
              rw [e1, hp9]
              unfold Site.skip1
              rw [tm, tn, show M'.pl.me = M.me from hme, show M'.pl.n = M.n from hn]
            obtain ⟨q1, q2, q3, q4, q5, q6, q7⟩ : M4.nx = (x + 1).toNat ∧ M4.gs = M3.gs ∧ M4.rs = M3.rs ∧ M4.me = M3.me ∧ M4.n = M3.n ∧ M4.held = M3.held ∧ M4.fp = M3.fp := by rw [← hM4]; exact ⟨rfl, rfl, rfl, rfl, rfl, rfl, rfl⟩
            have U10 : Upd M.fp M4.fp w (w9.setCell ⟨M3.gs, 9, none⟩ (.int .i64 (x + 1))) := by
              rw [q7]
              exact (((U67.trans U8).drew).trans U9).trans (u7.mono (a' := M3.fp) (b' := M3.fp) (fun k hk => by simp only [List.mem_singleton] at hk; subst hk; simp [SiteV.fp]) (fun k hk => .inr (.inl hk)))
            have HN7 := h10.nxOf
            rw [q2, q1] at HN7
            have KEY := Lib.hid (show ∃ (c' f : Nat) (M2 : SiteV), Value.int .i64 ((c : Int) + 1) = .int .i64 (c' : Int) ∧ c' ≤ 8 ∧ SiteS (w9.setCell ⟨M.gs, 9, none⟩ (.int .i64 (x + 1))) M2 ∧ Site.skipF f c' M2.pl to = R ∧ 4098 ≤ f + M2.nx ∧ M2.gs = M.gs ∧ M2.rs = M.rs ∧ M2.me = M.me ∧ M2.n = M.n ∧ M2.held.length ≤ M.held.length + 10 * c' ∧ Upd M.fp M2.fp w (w9.setCell ⟨M.gs, 9, none⟩ (.int .i64 (x + 1))) from
              ⟨c + 1, f', M4, by simp, by omega, by rw [← g3]; exact h10, by rw [hp10]; exact HS.out.symm, by omega, q2.trans g3, q3.trans (hr9.trans (hr8.trans (hr6.trans hrs))), q4.trans me3, q5.trans n3, by rw [q6]; omega, by rw [← g3]; exact U10⟩)
            have KM := Lib.hid (show nxOf (w9.setCell ⟨M.gs, 9, none⟩ (.int .i64 (x + 1))) M.gs < nxOf wr M.gs by
              have e1 : nxOf (w9.setCell ⟨M.gs, 9, none⟩ (.int .i64 (x + 1))) M.gs = 4098 - (x + 1).toNat := by rw [← g3]; exact HN7
              rw [e1, HX0]; omega)
            clear h9 u7 hB7 h10 U10 HN7 U9 h8 U8 U67 hp10 hM4 q1 q2 q3 q4 q5 q6 q7
            repeat' ((fail_if_success (with_reducible refine stop_append rfl ?_)); first | go_values | go_skip | go_guarded | go_step | go_upon | (simp only []; go_at_K))
            exact ⟨KEY.out, KM.out⟩
    · have hRM : R = M'.pl := by rw [← HSK.out, Site.skipF_stop _ _ _ _ (.inl (by omega))]
      have hci : ¬ (c : Int) < 8 := by omega
      have KEY := Lib.hid (show Goes w wr M R from ⟨M', h', hRM.symm, hg, hrs, U⟩)
      clear hRM h' U
      repeat' ((fail_if_success (with_reducible refine stop_append rfl ?_)); first | go_values | go_skip | go_guarded | go_step | go_upon | (simp only []; go_at_K))
      exact bodyPost_end (results_none rfl _ _ _) rfl ⟨rfl, KEY.out⟩
end Go.Proofs.YtijhlbeipglieaaGreat

/- Layer 23: promise. -/
namespace Go.Proofs.YtijhlbeipglieaaGreat
open Go.RowKit Agio Go.Maps

variable [Ban]
set_option maxRecDepth 100000 in
set_option maxHeartbeats 4000000 in
theorem sitePromise (w : World) (M : SiteV) (h : SiteS w M) (x : Int) (hx : 0 ≤ x ∧ x < 4096) (b : Bl) (hb : b.may 7 = true) :
    Calls Tryz.prog 166 #[M.ptr, .int .i64 x, b.val] w fun e w' => e = .returned (.bool (M.pl.promise x b).isSome) ∧ Goes w w' M ((M.pl.promise x b).getD M.pl) := by
  have hwf : (Lit.int .i64 x).wf = true := wfI (by omega) (by omega)
  obtain ⟨W, H, eW, hH, hB, U0⟩ := boxes1 w 30 #[.int .i64 b.r, .int .i64 b.s]
  have h1 := h.upd0 U0
  have hl := h1.look hwf
  obtain ⟨hb1, hb2, hb3⟩ := h1.sta_in x
  have hstat := h.ok.stat x
  rw [← SiteV.sta_pl] at hstat
  have HN := Lib.hid (show M.pl.promise x b = if b.r < 1 ∨ cmpB b (M.sta x).p < 0 then none else M.pl.note { (M.sta x).pl with p := b } ⟨1, x, b.r, b.s, []⟩ by
    unfold Site.promise; rw [← SiteV.sta_pl]; rfl)
  obtain ⟨R, hR⟩ : ∃ R, M.pl.promise x b = R := ⟨_, rfl⟩
  rw [hR] at HN ⊢
  clear hR
  have C : ∀ (Wx : World) (hU : Upd [] [] W Wx), Calls Tryz.prog 231 #[(M.sta x).val, b.val] Wx fun e w' => ∃ z : Sta, e = .returned (.tuple #[.agg #[.int .i64 z.p.r, .int .i64 z.p.s, .bool z.so, .int .i64 z.at_.r, .int .i64 z.at_.s, .slice z.A z.n z.c], .bool (prepS (M.sta x) b).isSome]) ∧
      ((prepS (M.sta x) b).isSome = true → z.pl = { (M.sta x).pl with p := b } ∧ OwnB 5 w' z.A z.n z.c z.b) ∧ Upd [] (ablk z.A) Wx w' := fun Wx hU => by
    refine (accPrepare Wx (M.sta x) b (RdB.upd hb1.rd hU (by simp)) (by have := hb3; omega)).mono ?_
    rintro e w' ⟨A, n, c, ho, hu, rfl⟩
    refine ⟨{ M.sta x with p := (prepS (M.sta x) b).getD (M.sta x).p, A := A, n := n, c := c }, rfl, fun hh => ⟨?_, ho⟩, hu⟩
    have hp : prepS (M.sta x) b = some b := by
      unfold prepS at hh ⊢
      split
      · rename_i hc; rw [if_pos hc] at hh; cases hh
      · rfl
    simp only [Sta.pl, hp, Option.getD_some]
  obtain ⟨Z, hZ⟩ : ∃ Z : World, W.alloc (.cells #[.int .i64 0, .int .i64 0, .bool false, .int .i64 0, .int .i64 0, .slice none 0 0] 37) = Z := ⟨_, rfl⟩
  have UZ : Upd [] [] W Z := by rw [← hZ]; exact (Upd.refl [] W).alloc _
  have BZ : Blk Z W.heap.size 37 #[.int .i64 0, .int .i64 0, .bool false, .int .i64 0, .int .i64 0, .slice none 0 0] := by rw [← hZ]; exact Blk.new _ _ _
  have hl1 : (Instr.lookup 117 (.map (some M.bs)) (.int .i64 x) false).run Tryz.prog W.drew = .ok (M.sta x).val W.drew := h1.drew.look hwf
  have hl2 : (Instr.lookup 117 (.map (some M.bs)) (.int .i64 x) false).run Tryz.prog Z.drew = .ok (M.sta x).val Z.drew := (h1.upd0 UZ).drew.look hwf
  obtain ⟨⟨p0, p1⟩, -⟩ := hB.c2
  obtain ⟨⟨r0, r1⟩, -⟩ := (hB.upd UZ (by simp)).c2
  have q5 : W.cell? ⟨M.gs, 5, none⟩ = some (.map (some M.bs)) := h1.blk.cell 5
  have s5 : Z.cell? ⟨M.gs, 5, none⟩ = some (.map (some M.bs)) := (h1.upd0 UZ).blk.cell 5
  have hHl := hB.lt
  have HAC := Lib.hid (show (prepS (M.sta x) b).isSome = !decide (b.r < 1 ∨ cmpB b (M.sta x).p < 0) by unfold prepS; split <;> simp_all)
  clear hl hb1 hb2
  generalize M.sta x = y at *
  obtain ⟨yv, hyv⟩ : ∃ z, y.val = z := ⟨_, rfl⟩
  obtain ⟨ac, hac⟩ : ∃ z, (prepS y b).isSome = z := ⟨_, rfl⟩
  simp only [hyv, hac] at C hl1 hl2
  rw [hac] at HAC
  rw [Bl.val, SiteV.ptr]
  simp only [Bl.val] at C
  clear hac
  go_enter Tryz.func166, Tryz.ntmps166
  repeat' (first | go_values | go_skip | go_guarded | go_step | go_upon | (simp only []; go_at_K))
  go_cut [7, 8] from 9 (fun s7 s8 wc => ∃ (g : Nat) (z : Sta), s7 = .pointer (some ⟨g, 0, none⟩) ∧ s8 = .bool ac ∧ Blk wc g 37 #[.int .i64 z.p.r, .int .i64 z.p.s, .bool z.so, .int .i64 z.at_.r, .int .i64 z.at_.s, .slice z.A z.n z.c] ∧
    (ac = true → z.pl = { y.pl with p := b } ∧ OwnB 5 wc z.A z.n z.c z.b) ∧ W.heap.size ≤ g ∧ (∀ k ∈ ablk z.A, W.heap.size ≤ k) ∧ Upd [] [] W wc)
  case first =>
    go_region_with (first
      | (go_at_call 231; (with_reducible refine (C W.drew (Upd.refl [] W).drew).mono ?_); rintro e W1 ⟨z, rfl, hz, hu⟩)
      | (go_at_call 231; (try rw [hZ]); (with_reducible refine (C Z.drew UZ.drew).mono ?_); rintro e W1 ⟨z, rfl, hz, hu⟩; have K := BZ.drew.upd hu (by simp); obtain ⟨⟨k0, k1, k2, k3, k4, k5⟩, e0, e1, e2, e3, e4, e5⟩ := K.c6)
      | (rw [hZ]))
    all_goals (repeat' (first | go_values | go_skip | go_guarded | go_step | go_upon | (simp only []; go_at_K)))
    all_goals go_meet
    all_goals first
      | (have KK := blk_set6 K (.int .i64 z.p.r) (.int .i64 z.p.s) (.bool z.so) (.int .i64 z.at_.r) (.int .i64 z.at_.s) (.slice z.A z.n z.c)
         have u6 := upd_set6 W1 W.heap.size (.int .i64 z.p.r) (.int .i64 z.p.s) (.bool z.so) (.int .i64 z.at_.r) (.int .i64 z.at_.s) (.slice z.A z.n z.c)
         have hA6 := UZ.drew.new hu
         have hB6 := (Upd.refl [] Z).drew.new hu
         have U6 := ((UZ.drew.trans hu).own (Nat.le_refl _) u6).gives (b' := []) (by simp)
         have E6 : ac = true → z.pl = { y.pl with p := b } ∧ OwnB 5 (set6 W1 W.heap.size (.int .i64 z.p.r) (.int .i64 z.p.s) (.bool z.so) (.int .i64 z.at_.r) (.int .i64 z.at_.s) (.slice z.A z.n z.c)) z.A z.n z.c z.b := fun ha => ⟨(hz ha).1, (hz ha).2.upd u6 (fun k hk => by
           have h8 := BZ.lt
           have h9 : Z.heap.size ≤ k := hB6 k hk
           simp only [List.mem_singleton]; omega)⟩
         exact ⟨W.heap.size, z, rfl, rfl, KK, E6, Nat.le_refl _, hA6, U6⟩)
      | (have KK := Blk.new W1 37 #[.int .i64 z.p.r, .int .i64 z.p.s, .bool z.so, .int .i64 z.at_.r, .int .i64 z.at_.s, .slice z.A z.n z.c]
         have U6 := ((((Upd.refl [] W).drew.trans hu).alloc (.cells #[.int .i64 z.p.r, .int .i64 z.p.s, .bool z.so, .int .i64 z.at_.r, .int .i64 z.at_.s, .slice z.A z.n z.c] 37)).gives (b' := []) (by simp))
         have hA6 := (Upd.refl [] W).drew.new hu
         have hs6 : W.heap.size ≤ W1.heap.size := hu.size
         exact ⟨W1.heap.size, z, rfl, rfl, KK, fun ha => ⟨(hz ha).1, (hz ha).2.alloc _⟩, hs6, hA6, U6⟩)
  case rest =>
    obtain ⟨g, z, rfl, rfl, hBz, hz, hgs, hAs, U1⟩ := hcut
    have hs := h1.upd0 U1
    have hBb := hB.upd U1 (by simp)
    have U2 := U0.trans (U1.up _)
    have HU2 := Lib.hid U2
    have hf := h.lt
    have hBn := h.ban
    clear C UZ BZ hl1 hl2 h1 hB U1 p0 p1 r0 r1 q5 s5 U2
    cases ac with
    | false =>
      repeat' (first | go_values | go_skip | go_guarded | go_step | go_upon | (simp only []; go_at_K))
      have HR := HN.out
      rw [if_pos (Classical.byContradiction fun hc => by have h9 := HAC.out; rw [decide_eq_false hc] at h9; cases h9)] at HR
      subst HR
      go_ret
      exact ⟨rfl, M, hs, rfl, rfl, rfl, HU2.out.mono (by simp) (fun k hk => .inr (.inl hk))⟩
    | true =>
      obtain ⟨ez, hoz⟩ := hz rfl
      have hbb := Bl.may7.1 hb
      have ezb : z.b = y.b := congrArg Sp.b ez
      have ezp : z.p = b := congrArg Sp.p ez
      have eza : z.at_ = y.at_ := congrArg Sp.at_ ez
      have C3 := siteNote wc M hs z ⟨1, x, b.r, b.s, none, 0, 0, []⟩ ⟨hoz.rd, hoz.own.tag⟩ (fun k hk hm => by have h7 := hAs k hk; have h8 := hf k hm; have h9 := HU2.out.size; have := U0.size; omega) (fun k hk hm => by have h7 := hAs k hk; have h8 := hBn k hm; have h9 := HU2.out.size; have := U0.size; omega) (by rw [ezb, ezp, eza]; exact ⟨hb3, hb, hstat.2.2⟩) (RdB.nil _ _) ⟨.inl ⟨rfl, rfl⟩, by show 0 ≤ x ∧ x ≤ 4095; omega, hbb.1, hbb.2, by simp [Rv.rc]⟩
      obtain ⟨⟨a0, a1, a2, a3, a4, a5⟩, -⟩ := hBz.c6
      obtain ⟨⟨b0, b1⟩, -⟩ := hBb.c2
      rw [ez] at C3
      have HR := HN.out
      rw [if_neg (by have := HAC.out; simpa using this.symm)] at HR
      rw [show (⟨1, x, b.r, b.s, none, 0, 0, []⟩ : Rv).rc = ⟨1, x, b.r, b.s, []⟩ from rfl, ← HR] at C3
      simp only [SiteV.ptr, Sta.val, Rv.val_eq] at C3
      clear HR HN hs hoz hBb hBz hz ez ezb ezp eza hstat hb3
      repeat' (first | go_values | go_skip | go_guarded | go_step | go_upon | (simp only []; go_at_K))
      ((with_reducible refine C3.mono ?_); rintro e w3 ⟨rfl, M3, h3, p3, g3, r3, V3⟩)
      repeat' (first | go_values | go_skip | go_guarded | go_step | go_upon | (simp only []; go_at_K))
      go_ret
      exact ⟨rfl, M3, h3, p3, g3, r3, (HU2.out.mono (a' := M.fp) (b' := M.fp) (by simp) (fun k hk => .inr (.inl hk))).trans V3⟩
end Go.Proofs.YtijhlbeipglieaaGreat

/- Layer 23: answer. -/
namespace Go.Proofs.YtijhlbeipglieaaGreat
open Go.RowKit Agio Go.Maps

def SiteV.ansV (M : SiteV) (x : Int) (b : Bl) : Mv := ⟨4, 0, 0, x, b.r, b.s, (M.sta x).at_.r, (M.sta x).at_.s, (M.sta x).so, (M.sta x).A, (M.sta x).n, (M.sta x).c, (M.sta x).b⟩
theorem SiteV.ansV_ms (M : SiteV) (x : Int) (b : Bl) : (M.ansV x b).ms = M.pl.answer x b := by
  unfold Site.answer
  rw [← SiteV.sta_pl]
  rfl
variable [Ban]
set_option maxRecDepth 100000 in
set_option maxHeartbeats 2000000 in
theorem siteAnswer (w : World) (M : SiteV) (h : SiteS w M) (x : Int) (hx : (Lit.int .i64 x).wf = true) (b : Bl) :
    Calls Tryz.prog 167 #[M.ptr, .int .i64 x, b.val] w fun e w' => e = .returned (M.ansV x b).val ∧ Upd [] [] w w' := by
  obtain ⟨W, H1, H2, H3, eW, h1, h2, h3, hB1, hB2, hB3, U0⟩ := boxes3 w 30 32 37 #[.int .i64 b.r, .int .i64 b.s] #[.int .i64 0, .int .i64 0, .int .i64 0, .int .i64 0, .int .i64 0, .int .i64 0, .int .i64 0, .int .i64 0, .bool false, .slice none 0 0] #[.int .i64 (M.sta x).p.r, .int .i64 (M.sta x).p.s, .bool (M.sta x).so, .int .i64 (M.sta x).at_.r, .int .i64 (M.sta x).at_.s, .slice (M.sta x).A (M.sta x).n (M.sta x).c]
  have Ua : Upd [] [] w ((w.alloc (.cells #[.int .i64 b.r, .int .i64 b.s] 30)).alloc (.cells #[.int .i64 0, .int .i64 0, .int .i64 0, .int .i64 0, .int .i64 0, .int .i64 0, .int .i64 0, .int .i64 0, .bool false, .slice none 0 0] 32)) := ((Upd.refl [] w).alloc _).alloc _
  have l1 := (h.upd0 Ua).look hx
  have q5 := (h.upd0 Ua).blk.cell 5
  change World.cell? _ ⟨M.gs, 5, none⟩ = some (.map (some M.bs)) at q5
  unfold SiteV.ansV
  generalize M.sta x = y at *
  have K := blk_set10 hB2 (.int .i64 4) (.int .i64 0) (.int .i64 0) (.int .i64 x) (.int .i64 b.r) (.int .i64 b.s) (.int .i64 y.at_.r) (.int .i64 y.at_.s) (.bool y.so) (.slice y.A y.n y.c)
  have u := upd_set10 W H2 (.int .i64 4) (.int .i64 0) (.int .i64 0) (.int .i64 x) (.int .i64 b.r) (.int .i64 b.s) (.int .i64 y.at_.r) (.int .i64 y.at_.s) (.bool y.so) (.slice y.A y.n y.c)
  have U := (U0.gives (b' := []) (by simp)).own (g := H2) (by omega) u
  obtain ⟨⟨a0, a1, a2, a3, a4, a5⟩, -⟩ := hB3.c6
  obtain ⟨⟨b0, b1⟩, -⟩ := hB1.c2
  obtain ⟨⟨e0, e1, e2, e3, e4, e5, e6, e7, e8, e9⟩, f0, f1, f2, f3, f4, f5, f6, f7, f8, f9⟩ := hB2.c10
  simp only [Sta.val] at l1
  rw [SiteV.ptr, Bl.val, Mv.val_eq]
  clear h Ua u hB1 hB2 hB3 U0
  go_enter Tryz.func167, Tryz.ntmps167
  repeat' (first | go_values | go_skip | go_guarded | go_step | go_upon | (simp only []; go_at_K))
  generalize hW : World.setCell _ _ _ = W4
  rw [set10, hW] at K U
  obtain ⟨⟨z0, z1, z2, z3, z4, z5, z6, z7, z8, z9⟩, -⟩ := K.c10
  exact bodyPost_ret (v := .agg #[.int .i64 4, .int .i64 0, .int .i64 0, .int .i64 x, .int .i64 b.r, .int .i64 b.s, .int .i64 y.at_.r, .int .i64 y.at_.s, .bool y.so, .slice y.A y.n y.c]) (by simp [results, Tryz.results167, go_sem, z0, z1, z2, z3, z4, z5, z6, z7, z8, z9]) rfl ⟨rfl, U⟩
end Go.Proofs.YtijhlbeipglieaaGreat
