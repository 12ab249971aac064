/- Layer 23: Tick. -/
import Derived.Test.YtijhlbeipglieaaGreatPkAgain
import Derived.Test.YtijhlbeipglieaaGreatPkLate
import Derived.Test.YtijhlbeipglieaaGreatHand6
namespace Agio
open Go Go.Proofs.YtijhlbeipglieaaGreat
namespace Site
variable (s : Site)
def tick1 : Site := ({ s with wt := tickG s.me s.wt s.n } : Site).again
def tick3 : Site := s.tick1.skip s.tick1.topA
def tick4 : Site := (s.tick3.late s.tick3.topA).foldl begin_ s.tick3
structure TickOk (s : Site) : Prop where
  held : s.held.length ≤ 600000000
  wt : ∀ x ∈ s.wt, 0 ≤ x
  age : ∀ p ∈ s.rs, p.2.age ≤ 4000000000000000000
  held1 : s.tick1.held.length ≤ 700000000
  beg : ∀ j x, (s.tick3.late s.tick3.topA)[j]? = some x → (((s.tick3.late s.tick3.topA).take j).foldl begin_ s.tick3).held.length ≤ 800000000 ∧
    ((((s.tick3.late s.tick3.topA).take j).foldl begin_ s.tick3).low x).may 7 = true ∧
    (((((s.tick3.late s.tick3.topA).take j).foldl begin_ s.tick3).stat x).so = true ∨ ((((s.tick3.late s.tick3.topA).take j).foldl begin_ s.tick3).stat x).at_ = ⟨0, 0⟩ ∧ ((((s.tick3.late s.tick3.topA).take j).foldl begin_ s.tick3).stat x).b = [])
  held4 : s.tick4.held.length ≤ 900000000
theorem tick_eq (hd : s.down = false) : s.tick = if s.tick4.front < 4096 then s.tick4.others (ask_ s.tick4.front (decide ((s.tick4.front : Int) < s.tick3.topA))) s.tick4.n else s.tick4 := by
  unfold tick
  rw [if_neg (by rw [hd]; simp)]
  rfl
theorem late_in {top x : Int} (h : x ∈ s.late top) : 0 ≤ x ∧ x < top := by
  have h1 := List.mem_of_mem_take h
  obtain ⟨h2, -⟩ := List.mem_filter.1 h1
  obtain ⟨i, hi, rfl⟩ := List.mem_map.1 h2
  rw [List.mem_range'_1] at hi
  omega
end Site
end Agio
namespace Go.Proofs.YtijhlbeipglieaaGreat
open Go.RowKit Agio Go.Maps
variable [Ban]
theorem SiteS.topA_le {w : World} {M : SiteV} (h : SiteS w M) : M.pl.topA ≤ 4096 := by
  rw [SiteV.top_pl]
  have h1 := h.ok.top.2
  have h2 := (topG_range M.lv fun p hp => ⟨(h.lrn.keys p hp).1, (h.lrn.keys p hp).2.1⟩).2
  show max M.top _ ≤ _
  have : M.pl.top = M.top := rfl
  omega
set_option maxRecDepth 100000 in
set_option maxHeartbeats 4000000 in
theorem siteTick (w : World) (M : SiteV) (h : SiteS w M) (hT : M.pl.down = false → M.pl.TickOk) :
    Calls Tryz.prog 34 #[M.ptr] w fun e w' => e = .returned (.tuple #[]) ∧ Gone w w' M M.pl.tick := by
  have C0 := siteDown w M h
  rw [SiteV.ptr] at C0 ⊢
  obtain ⟨dn, hdn⟩ : ∃ d, M.pl.down = d := ⟨_, rfl⟩
  rw [hdn] at C0
  cases dn with
  | true =>
    have HR := Lib.hid (show M.pl.tick = M.pl by unfold Site.tick; rw [if_pos hdn])
    obtain ⟨R, hR⟩ : ∃ R, M.pl.tick = R := ⟨_, rfl⟩
    rw [hR] at HR ⊢
    clear hR hT
    go_enter Tryz.func34, Tryz.ntmps34
    repeat' ((fail_if_success (with_reducible refine stop_append rfl ?_)); first | go_values | go_skip | go_guarded | go_step | go_upon | (simp only []; go_at_K))
    ((with_reducible refine C0.mono ?_); rintro e w1 ⟨rfl, rfl⟩)
    repeat' ((fail_if_success (with_reducible refine stop_append rfl ?_)); first | go_values | go_skip | go_guarded | go_step | go_upon | (simp only []; go_at_K))
    exact bodyPost_ret (v := .tuple #[]) (results_none rfl _ _ _) rfl ⟨rfl, M, h, HR.out.symm, rfl, Upd.refl _ _⟩
  | false =>
    obtain ⟨t1, t2, t3, t4, t5, t6⟩ := hT hdn
    have HR := Lib.hid (M.pl.tick_eq hdn)
    have n7 : M.n ≤ 7 := h.ok.n7
    obtain ⟨R, hR⟩ : ∃ R, M.pl.tick = R := ⟨_, rfl⟩
    rw [hR] at HR ⊢
    have q10 : w.cell? ⟨M.gs, 10, none⟩ = some (.pointer (some ⟨M.gw, 0, none⟩)) := h.blk.cell 10
    have C1 := timerTick w M.gw M.me M.n M.pat M.wt h.wat n7 t2
    obtain ⟨l1, hl1⟩ : ∃ l, M.pl.tick1 = l := ⟨_, rfl⟩
    have H1 := Lib.hid (show ({ M.pl with wt := tickG M.me M.wt M.n } : Site).again = l1 from hl1)
    obtain ⟨l3, hl3⟩ : ∃ l, M.pl.tick3 = l := ⟨_, rfl⟩
    have H3 := Lib.hid (show l1.skip l1.topA = l3 by rw [← hl3, ← hl1]; rfl)
    obtain ⟨l4, hl4⟩ : ∃ l, M.pl.tick4 = l := ⟨_, rfl⟩
    have H4 := Lib.hid (show (l3.late l3.topA).foldl Site.begin_ l3 = l4 by rw [← hl4, ← hl3]; rfl)
    simp only [hl1, hl3, hl4] at t4 t5 t6 HR
    clear hR hl1 hl3 hl4 hT
    go_enter Tryz.func34, Tryz.ntmps34
    repeat' ((fail_if_success (with_reducible refine stop_append rfl ?_)); first | go_values | go_skip | go_guarded | go_step | go_upon | (simp only []; go_at_K))
    ((with_reducible refine C0.mono ?_); rintro e w1 ⟨rfl, rfl⟩)
    repeat' ((fail_if_success (with_reducible refine stop_append rfl ?_)); first | go_values | go_skip | go_guarded | go_step | go_upon | (simp only []; go_at_K))
    ((with_reducible refine C1.mono ?_); rintro e w1 ⟨rfl, hW1, hu1⟩)
    obtain ⟨h1, V1⟩ := h.watch hu1 hW1
    obtain ⟨M1, hM1⟩ : ∃ M1 : SiteV, { M with wt := tickG M.me M.wt M.n } = M1 := ⟨_, rfl⟩
    rw [hM1] at h1
    replace V1 : Upd M.fp M1.fp w w1 := by rw [← hM1]; exact V1
    have p1 : M1.pl = { M.pl with wt := tickG M.me M.wt M.n } := by rw [← hM1]; rfl
    have g1 : M1.gs = M.gs := by rw [← hM1]
    rw [← p1] at H1
    have C2 := siteAgain w1 M1 h1 (by rw [← SiteV.held_len, p1]; show M.pl.held.length ≤ _; omega) (by rw [p1]; exact t3)
    rw [H1.out, SiteV.ptr, g1] at C2
    clear C0 C1 hM1 hW1 hu1 q10
    repeat' ((fail_if_success (with_reducible refine stop_append rfl ?_)); first | go_values | go_skip | go_guarded | go_step | go_upon | (simp only []; go_at_K))
    ((with_reducible refine C2.mono ?_); rintro e w2 ⟨rfl, M2, h2, p2, g2, U2⟩)
    have g2' := g2.trans g1
    have C3 := siteTop w2 M2 h2
    have C4 := fun (wx : World) (hu : Upd [] [] w2 wx) => siteSkip wx M2 (h2.upd0 hu) l1.topA (by rw [← SiteV.held_len, p2]; exact t4)
    rw [p2, SiteV.ptr, g2'] at C3
    simp only [p2, H3.out, SiteV.ptr, g2'] at C4
    have UU := V1.trans U2
    clear C2 h1 V1 U2 h
    repeat' ((fail_if_success (with_reducible refine stop_append rfl ?_)); first | go_values | go_skip | go_guarded | go_step | go_upon | (simp only []; go_at_K))
    ((with_reducible refine C3.mono ?_); rintro e w3 ⟨rfl, hu3⟩)
    repeat' ((fail_if_success (with_reducible refine stop_append rfl ?_)); first | go_values | go_skip | go_guarded | go_step | go_upon | (simp only []; go_at_K))
    ((with_reducible refine (C4 w3 hu3).mono ?_); rintro e w4 ⟨rfl, M4, h4, p4, g4, -, U4⟩)
    have g4' := g4.trans g2'
    have C5 := siteTop w4 M4 h4
    have hta := h4.topA_le
    have C6 := fun (wx : World) (hu : Upd [] [] w4 wx) => siteLate wx M4 (h4.upd0 hu) l3.topA (by rw [← p4]; omega)
    rw [p4, SiteV.ptr, g4'] at C5
    simp only [p4, SiteV.ptr, g4'] at C6
    rw [p4] at hta
    have U5 := UU.trans ((hu3.up M2.fp).trans U4)
    clear C3 C4 h2 UU U4 hu3
    repeat' ((fail_if_success (with_reducible refine stop_append rfl ?_)); first | go_values | go_skip | go_guarded | go_step | go_upon | (simp only []; go_at_K))
    ((with_reducible refine C5.mono ?_); rintro e w5 ⟨rfl, hu5⟩)
    repeat' ((fail_if_success (with_reducible refine stop_append rfl ?_)); first | go_values | go_skip | go_guarded | go_step | go_upon | (simp only []; go_at_K))
    ((with_reducible refine (C6 w5 hu5).mono ?_); rintro e w6 ⟨A, c, rfl, ho, hu6⟩)
    have h6 := (h4.upd0 hu5).upd0 hu6
    have hnw := (Upd.refl [] w5).new hu6
    have hsz := hu5.size
    have hAf : ∀ k ∈ ablk A, k ∉ M4.fp := fun k hk hm => by have e1 := hnw k hk; have e2 := h4.lt k hm; omega
    have U6 := (U5.trans (hu5.up M4.fp)).trans ((hu6.gives (b' := []) (by simp)).up M4.fp)
    have hlin : ∀ x ∈ l3.late l3.topA, 0 ≤ x ∧ x < 4096 := fun x hx => by have := l3.late_in hx; omega
    have hl8 : (l3.late l3.topA).length ≤ 8 := by unfold Site.late; rw [List.length_take]; omega
    obtain ⟨ls, hls⟩ : ∃ ls, l3.late l3.topA = ls := ⟨_, rfl⟩
    obtain ⟨tp, htp⟩ : ∃ tp, l3.topA = tp := ⟨_, rfl⟩
    simp only [hls] at ho hlin hl8 t5 H4 ⊢
    simp only [htp] at HR ⊢
    clear C5 C6 h4 U5 hu5 hu6 hnw hls htp
    repeat' ((fail_if_success (with_reducible refine stop_append rfl ?_)); first | go_values | go_skip | go_guarded | go_step | go_upon | (simp only []; go_at_K))
    go_loopw [26] (fun v26 wr => ∃ (i : Nat) (M' : SiteV), i ≤ ls.length ∧ v26 = .int .i64 (i : Int) ∧ SiteS wr M' ∧ M'.pl = (ls.take i).foldl Site.begin_ l3 ∧ M'.gs = M.gs ∧ Upd M4.fp M'.fp w6 wr) (fun v26 _ => ls.length - (intOf v26).toNat)
    case atStart => exact ⟨0, M4, by omega, rfl, h6, p4, g4', Upd.refl _ _⟩
    case round =>
      obtain ⟨i, M', hi, rfl, h', hp, hg, U⟩ := hrel
      by_cases hlt : i < ls.length
      · have hil : (i : Int) < (ls.length : Int) := by omega
        have hw1 : IntKind.i64.wrap ((i : Int) + 1) = (i : Int) + 1 := by rw [IntKind.wrap_i64]; omega
        have ho' := ho.upd U hAf
        obtain ⟨ad, u, rfl, hu', hc⟩ := ho'.rd.at_ (k := i) (by omega)
        rw [List.getElem?_map, List.getElem?_eq_getElem hlt, Option.map_some, Option.some.injEq] at hu'
        subst hu'
        obtain ⟨b1, b2, b3⟩ := t5 i _ (List.getElem?_eq_getElem hlt)
        rw [← hp] at b1 b2 b3
        have C7 := siteBegin wr M' h' ls[i] (hlin _ (List.getElem_mem hlt)) (by rw [← SiteV.held_len]; exact b1) b2 b3
        have HS := Lib.hid (show M'.pl.begin_ ls[i] = (ls.take (i + 1)).foldl Site.begin_ l3 by rw [List.take_succ_eq_append_getElem hlt, List.foldl_append, ← hp]; rfl)
        rw [SiteV.ptr, hg] at C7
        generalize ls[i] = x at *
        rw [HS.out] at C7
        repeat' ((fail_if_success (with_reducible refine stop_append rfl ?_)); first | go_values | go_skip | go_guarded | go_step | go_upon | (simp only []; go_at_K))
        ((with_reducible refine C7.mono ?_); rintro e w8 ⟨rfl, M8, h8, p8, g8, U8⟩)
        repeat' ((fail_if_success (with_reducible refine stop_append rfl ?_)); first | go_values | go_skip | go_guarded | go_step | go_upon | (simp only []; go_at_K))
        exact ⟨⟨i + 1, M8, by omega, by simp, h8, p8, g8.trans hg, U.trans U8⟩, by simp [intOf]; omega⟩
      · obtain rfl : i = ls.length := by omega
        have hil : ¬ ((ls.length : Int) < (ls.length : Int)) := by omega
        rw [List.take_length, H4.out] at hp
        have q7 : wr.cell? ⟨M.gs, 7, none⟩ = some (.pointer (some ⟨M'.gl, 0, none⟩)) := by rw [← hg]; exact h'.blk.cell 7
        have C8 := learnFrontier wr M'.gl M'.bl M'.lv M'.taken h'.lrn
        rw [← SiteV.front_pl, hp] at C8
        have UE := U6.trans U
        obtain ⟨fr, hfr⟩ : ∃ fr, l4.front = fr := ⟨_, rfl⟩
        rw [hfr] at C8 HR
        clear hfr
        repeat' ((fail_if_success (with_reducible refine stop_append rfl ?_)); first | go_values | go_skip | go_guarded | go_step | go_upon | (simp only []; go_at_K))
        ((with_reducible refine C8.mono ?_); rintro e w8 ⟨rfl, rfl⟩)
        by_cases hf : fr < 4096
        · have df : decide ((fr : Int) < 4096) = true := decide_eq_true (by omega)
          have HRR := Lib.hid (show R = l4.others (Site.ask_ fr (decide ((fr : Int) < tp))) l4.n by rw [HR.out, if_pos hf])
          have hms : Mv.ms ⟨8, 0, 0, fr, 0, 0, 0, 0, (decide ((fr : Int) < tp)), none, 0, 0, []⟩ = Site.ask_ fr (decide ((fr : Int) < tp)) := rfl
          have C9 := siteOthers wr M' h' ⟨8, 0, 0, fr, 0, 0, 0, 0, (decide ((fr : Int) < tp)), none, 0, 0, []⟩ (by rw [hms]; refine ⟨by simp [Site.ask_], by simp, by simp, by simp [Site.ask_]; omega, by simp [Site.ask_], by simp [Site.ask_], by simp [Site.ask_], by simp [Site.ask_], by simp [Site.ask_], by right; simp [Site.ask_]⟩) (RdB.nil _ _) (by simp [ablk]) (by rw [← SiteV.held_len, hp]; exact t6)
          rw [hms, hp, SiteV.ptr, hg, Mv.val_eq, show M'.n = l4.n from congrArg Site.n hp] at C9
          dsimp only at C9
          repeat' ((fail_if_success (with_reducible refine stop_append rfl ?_)); first | go_values | go_skip | go_guarded | go_step | go_upon | (simp only []; go_at_K))
          ((with_reducible refine C9.mono ?_); rintro e w9 ⟨rfl, M9, h9, p9, g9, -, U9⟩)
          repeat' ((fail_if_success (with_reducible refine stop_append rfl ?_)); first | go_values | go_skip | go_guarded | go_step | go_upon | (simp only []; go_at_K))
          exact bodyPost_end (results_none rfl _ _ _) rfl ⟨rfl, M9, h9, p9.trans HRR.out.symm, g9.trans hg, UE.trans U9⟩
        · have df : decide ((fr : Int) < 4096) = false := decide_eq_false (by omega)
          have HRR := Lib.hid (show R = l4 by rw [HR.out, if_neg hf])
          repeat' ((fail_if_success (with_reducible refine stop_append rfl ?_)); first | go_values | go_skip | go_guarded | go_step | go_upon | (simp only []; go_at_K))
          exact bodyPost_end (results_none rfl _ _ _) rfl ⟨rfl, M', h', hp.trans HRR.out.symm, hg, UE⟩
end Go.Proofs.YtijhlbeipglieaaGreat
