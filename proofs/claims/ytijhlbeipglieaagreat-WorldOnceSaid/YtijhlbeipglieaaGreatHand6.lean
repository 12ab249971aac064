/- Layer 23: wanted. -/
import Derived.Deep.RegionHeld3
import Derived.Test.YtijhlbeipglieaaGreatPkHandA
import Derived.Test.YtijhlbeipglieaaGreatSiteU
namespace Agio
open Go Go.Proofs.YtijhlbeipglieaaGreat
def decS (D : Int → Option (List UInt8)) (s n : Nat) : List Int := ((List.range' s n).map fun (i : Nat) => (i : Int)).filter fun x => (D x).isSome
theorem decS_succ (D : Int → Option (List UInt8)) (s n : Nat) : decS D s (n + 1) = decS D s n ++ (if (D ((s + n : Nat) : Int)).isSome then [((s + n : Nat) : Int)] else []) := by
  unfold decS
  rw [List.range'_concat, List.map_append, List.filter_append]
  congr 1
  simp only [Nat.one_mul, List.map_cons, List.map_nil, List.filter_cons, List.filter_nil]
theorem decS_add (D : Int → Option (List UInt8)) (s n m : Nat) : decS D s (n + m) = decS D s n ++ decS D (s + n) m := by
  induction m with
  | zero => simp [decS]
  | succ m ih => rw [← Nat.add_assoc, decS_succ, ih, decS_succ, List.append_assoc, Nat.add_assoc]
theorem decS_take (D : Int → Option (List UInt8)) (s n N : Nat) (h : n ≤ N) (hl : (decS D s n).length ≤ 16) (he : n = N ∨ (decS D s n).length = 16) : (decS D s N).take 16 = decS D s n := by
  rcases he with rfl | he
  · exact List.take_of_length_le hl
  · obtain ⟨m, rfl⟩ : ∃ m, N = n + m := ⟨N - n, by omega⟩
    rw [decS_add, List.take_append_of_le_length (by omega), List.take_of_length_le hl]
def Site.tellsTo (D : Int → Option (List UInt8)) (to : Int) (s : Site) (l : List Int) : Site := l.foldl (fun u x => u.send to (Site.tells x ((D x).getD []))) s
theorem Site.tellsTo_snoc (D : Int → Option (List UInt8)) (to : Int) (s : Site) (l : List Int) (x : Int) : Site.tellsTo D to s (l ++ [x]) = (Site.tellsTo D to s l).send to (Site.tells x ((D x).getD [])) := by
  unfold Site.tellsTo; rw [List.foldl_append]; rfl
theorem Site.skipF_held : ∀ (f c : Nat) (s : Site) (to : Int), c ≤ 8 → (Site.skipF f c s to).held.length ≤ s.held.length + (s.n + 1) * (8 - c)
  | 0, _, _, _, _ => by unfold Site.skipF; omega
  | f + 1, c, s, to, hc => by
    unfold Site.skipF
    split
    · omega
    split
    · omega
    split
    · split
      · omega
      · rename_i t ha
        have k := Site.kin_accept ha
        have h0 : t.held = s.held := (Site.accept_fr ha).2.2.1
        have := Site.skipF_held f (c + 1) (t.skip1 s.ownB (nextI s.me s.nx s.n)) to (by omega)
        have h1 : (t.skip1 s.ownB (nextI s.me s.nx s.n)).held.length ≤ s.held.length + s.n + 1 := by
          unfold Site.skip1 Site.send
          rw [Site.others_eq]
          have h2 := Site.tell_len t (Site.skips (nextI s.me s.nx s.n) s.ownB) t.n
          have h3 := k.n
          simp only [List.length_append, List.length_cons, List.length_nil, h0]
          omega
        have h4 : (t.skip1 s.ownB (nextI s.me s.nx s.n)).n = s.n := (Site.kin_skip1 _ _ _).n.trans k.n
        rw [h4] at this
        have h5 : (s.n + 1) * (8 - c) = (s.n + 1) * (8 - (c + 1)) + (s.n + 1) := by
          have : 8 - c = (8 - (c + 1)) + 1 := by omega
          rw [this, Nat.mul_add, Nat.mul_one]
        omega
    · exact Site.skipF_held f c { s with nx := (nextI s.me s.nx s.n + 1).toNat } to hc
theorem Site.skip_held' (s : Site) (to : Int) (h7 : s.n ≤ 7) : (s.skip to).held.length ≤ s.held.length + 64 := by
  have := Site.skipF_held 4098 0 s to (by omega)
  unfold Site.skip
  have h2 : (s.n + 1) * (8 - 0) ≤ 64 := by have : 8 - 0 = 8 := rfl; rw [this]; omega
  omega
theorem Site.tellsTo_dec (D : Int → Option (List UInt8)) (to : Int) : ∀ (l : List Int) (s : Site) (x : Int), (Site.tellsTo D to s l).dec x = s.dec x
  | [], _, _ => rfl
  | y :: l, s, x => Site.tellsTo_dec D to l (s.send to (Site.tells y ((D y).getD []))) x
theorem topG_range {α : Type} (L : AL α) (h : ∀ p ∈ L, 0 ≤ p.1 ∧ p.1 < 4096) : 0 ≤ topG L ∧ topG L ≤ 4096 := by
  unfold topG
  have : ∀ (L : AL α) (m : Int), (∀ p ∈ L, 0 ≤ p.1 ∧ p.1 < 4096) → 0 ≤ m → m ≤ 4096 → 0 ≤ L.foldl (fun m p => max m (p.1 + 1)) m ∧ L.foldl (fun m p => max m (p.1 + 1)) m ≤ 4096 := by
    intro L
    induction L with
    | nil => exact fun m _ h0 h1 => ⟨h0, h1⟩
    | cons p L ih =>
      intro m hp h0 h1
      have := hp p (by simp)
      exact ih _ (fun q hq => hp q (List.mem_cons_of_mem _ hq)) (by show 0 ≤ max m (p.1 + 1); omega) (by show max m (p.1 + 1) ≤ 4096; omega)
  exact this L 0 h (by omega) (by omega)
end Agio
namespace Go.Proofs.YtijhlbeipglieaaGreat
open Go.RowKit Agio Go.Maps

variable [Ban]
set_option maxRecDepth 100000 in
set_option maxHeartbeats 4000000 in
theorem siteWanted (w : World) (M : SiteV) (h : SiteS w M) (m : Mv) (hm : m.ms.May) (hl : M.held.length ≤ 600000000) :
    Calls Tryz.prog 198 #[M.ptr, m.val] w fun e w' => e = .returned (.tuple #[]) ∧ Gone w w' M (M.pl.wanted m.ms) := by
  obtain ⟨W, H, eW, hH, hB, U0⟩ := boxes1 w 32 #[.int .i64 m.k, .int .i64 m.f, .int .i64 m.t, .int .i64 m.s, .int .i64 m.br, .int .i64 m.bs, .int .i64 m.hr, .int .i64 m.hs, .bool m.so, .slice m.A m.n m.c]
  have h1 := h.upd0 U0
  have U0' := U0.gives (b' := []) (by simp)
  have hslot : 0 ≤ m.s ∧ m.s ≤ 4095 := hm.slot
  have hfrm : 0 ≤ m.f ∧ m.f ≤ 6 := hm.frm
  have hHf : H ∉ M.fp := fun hk => by have := h.lt H hk; omega
  have hwf : (Lit.int .i64 m.s).wf = true := wfI (by omega) (by omega)
  obtain ⟨T, hT⟩ : ∃ T, (if m.so = true ∧ M.pl.dec m.s = none ∧ ownerI m.s M.n = M.me then M.pl.skip (m.s + 1) else M.pl) = T := ⟨_, rfl⟩
  have HT := Lib.hid hT
  obtain ⟨R, hR⟩ : ∃ R, M.pl.wanted m.ms = R := ⟨_, rfl⟩
  have HR := Lib.hid (show R = Site.tellsTo T.dec m.f T ((decS T.dec m.s.toNat ((topG T.lv).toNat - m.s.toNat)).take 16) by rw [← hR, ← hT]; rfl)
  rw [hR]
  clear hR hT
  obtain ⟨dn, hdn⟩ : ∃ d, (M.pl.dec m.s).isSome = d := ⟨_, rfl⟩
  have C1 := learnGet W.drew M.gl M.bl M.lv M.taken h1.drew.lrn h1.drew.lvRd m.s hwf
  have hdl : (lookG m.s M.lv).isSome = dn := by rw [← hdn, SiteV.dec_pl, Option.isSome_map]
  rw [hdl] at C1
  have HDN := Lib.hid hdn
  have q7 : W.drew.cell? ⟨M.gs, 7, none⟩ = some (.pointer (some ⟨M.gl, 0, none⟩)) := h1.blk.cell 7
  have a3 : W.drew.cell? ⟨H, 3, none⟩ = some (.int .i64 m.s) := hB.cell 3
  rw [SiteV.ptr, Mv.val_eq]
  clear hdn hdl
  go_enter Tryz.func198, Tryz.ntmps198
  repeat' ((fail_if_success (with_reducible refine stop_append rfl ?_)); first | go_values | go_skip | go_guarded | go_step | go_upon | (simp only []; go_at_K))
  go_upto_region 1 with fail
  go_cut [5] from 11 (fun s5 wc => s5 = .bool dn ∧ Upd [] [] W wc)
  case first =>
    go_region_held3 (fun w' => w'.cell? ⟨M.gs, 7, none⟩ = some (.pointer (some ⟨M.gl, 0, none⟩)) ∧ w'.cell? ⟨H, 3, none⟩ = some (.int .i64 m.s)) (first | exact ⟨q7, a3⟩ | exact ⟨q7b, a3b⟩)
      (first
        | (go_at_call 93; (with_reducible refine C1.mono ?_); rintro e w1 ⟨A1, n1, c1, rfl, ho1, hu1⟩; have q7b := hu1.cell q7 (by simp); have a3b := hu1.cell a3 (by simp)))
    all_goals (repeat' ((fail_if_success (with_reducible refine stop_append rfl ?_)); first | go_values | go_skip | go_guarded | go_step | go_upon | (simp only []; go_at_K)))
    all_goals go_meet
    all_goals exact ⟨rfl, ((Upd.refl [] W).drew.trans hu1).gives (by simp)⟩
  case rest =>
    obtain ⟨rfl, U1⟩ := hcut
    have h2 := h1.upd0 U1
    have hB2 := hB.upd U1 (by simp)
    have UW := U0'.trans U1
    have a8N : ∀ N, (wc.drewN N).cell? ⟨H, 8, none⟩ = some (.bool m.so) := fun N => hB2.cell 8
    have a3N : ∀ N, (wc.drewN N).cell? ⟨H, 3, none⟩ = some (.int .i64 m.s) := fun N => hB2.cell 3
    have g0N : ∀ N, (wc.drewN N).cell? ⟨M.gs, 0, none⟩ = some (.int .i64 (M.me : Int)) := fun N => h2.blk.cell 0
    have g1N : ∀ N, (wc.drewN N).cell? ⟨M.gs, 1, none⟩ = some (.int .i64 (M.n : Int)) := fun N => h2.blk.cell 1
    obtain ⟨wo, hwo⟩ : ∃ x, wc = x := ⟨_, rfl⟩
    simp only [hwo] at h2 hB2 UW a8N a3N g0N g1N
    rw [hwo]
    clear hwo U1 C1 q7 a3 h1
    have CO := fun N => slotsOwner (wo.drewN N) m.s M.n
    obtain ⟨D, hD⟩ : ∃ D, (m.so && (!dn && (ownerI m.s M.n == (M.me : Int)))) = D := ⟨_, rfl⟩
    have HD := Lib.hid hD
    obtain ⟨so, hse⟩ : ∃ so, m.so = so := ⟨_, rfl⟩
    obtain ⟨o, ho⟩ : ∃ o, ownerI m.s M.n = o := ⟨_, rfl⟩
    have HSO := Lib.hid hse
    have HO := Lib.hid ho
    simp only [hse] at a8N
    simp only [ho] at CO
    rw [hse, ho] at HD
    clear hD hse ho
    go_upto_region 2 with fail
    go_cut [41] from 22 (fun s41 wc => s41 = .bool D ∧ Upd [] [] wo wc)
    case first =>
      clear h2 hB2 UW HR HT
      cases so with
      | false =>
        have hDf := HD.out
        simp only [Bool.false_and] at hDf
        subst hDf
        go_quiet (with_reducible exact quiet_eq (CO _))
        repeat' ((fail_if_success (with_reducible refine stop_append rfl ?_)); first | go_values | go_skip | go_guarded | go_step | go_upon | (simp only []; go_at_K))
        go_meet
        exact ⟨rfl, (Upd.refl [] wo).drewN _⟩
      | true =>
        cases dn with
        | true =>
          have hDf := HD.out
          simp only [Bool.not_true, Bool.false_and, Bool.and_false] at hDf
          subst hDf
          go_quiet (with_reducible exact quiet_eq (CO _))
          repeat' ((fail_if_success (with_reducible refine stop_append rfl ?_)); first | go_values | go_skip | go_guarded | go_step | go_upon | (simp only []; go_at_K))
          go_meet
          exact ⟨rfl, (Upd.refl [] wo).drewN _⟩
        | false =>
          have hDf := HD.out
          simp only [Bool.not_false, Bool.true_and] at hDf
          have HDF := Lib.hid hDf
          clear hDf
          go_quiet (with_reducible exact quiet_eq (CO _))
          repeat' ((fail_if_success (with_reducible refine stop_append rfl ?_)); first | go_values | go_skip | go_guarded | go_step | go_upon | (simp only []; go_at_K))
          go_meet
          exact ⟨by rw [HDF.out], (Upd.refl [] wo).drewN _⟩
    case rest =>
      obtain ⟨rfl, U2⟩ := hcut
      have h3 := h2.upd0 U2
      have hB3 := hB2.upd U2 (by simp)
      have UX := UW.trans U2
      obtain ⟨wx, hwx⟩ : ∃ x, wc = x := ⟨_, rfl⟩
      rw [hwx] at h3 hB3 UX ⊢
      clear hwx U2 a8N a3N g0N g1N CO h2 hB2 UW
      have HTD := Lib.hid (show T = if D = true then M.pl.skip (m.s + 1) else M.pl by
        rw [← HT.out]
        have h1 := HD.out
        have h2 := HDN.out
        rw [← HSO.out, ← HO.out] at h1
        by_cases hc : m.so = true ∧ M.pl.dec m.s = none ∧ ownerI m.s M.n = M.me
        · rw [if_pos hc, if_pos]
          rw [← h1, hc.1, ← h2, hc.2.1, hc.2.2]; simp
        · rw [if_neg hc, if_neg]
          intro hd
          rw [← h1] at hd
          simp only [Bool.and_eq_true, Bool.not_eq_true', beq_iff_eq] at hd
          refine hc ⟨hd.1, ?_, hd.2.2⟩
          have h9 := hd.2.1
          rw [← h2] at h9
          cases hq : M.pl.dec m.s with
          | none => rfl
          | some _ => rw [hq] at h9; cases h9)
      go_upto_if 41 with fail
      go_cut [3] from 11 (fun s3 wc => s3 = .pointer (some ⟨H, 0, none⟩) ∧ ∃ M1, SiteS wc M1 ∧ M1.pl = T ∧ M1.gs = M.gs ∧ M1.held.length ≤ 700000000 ∧ Upd M.fp M1.fp w wc ∧ Blk wc H 32 #[.int .i64 m.k, .int .i64 m.f, .int .i64 m.t, .int .i64 m.s, .int .i64 m.br, .int .i64 m.bs, .int .i64 m.hr, .int .i64 m.hs, .bool m.so, .slice m.A m.n m.c] ∧ H ∉ M1.fp)
      case first =>
        cases D with
        | false =>
          have KEY := Lib.hid (show ∃ M1, SiteS wx M1 ∧ M1.pl = T ∧ M1.gs = M.gs ∧ M1.held.length ≤ 700000000 ∧ Upd M.fp M1.fp w wx ∧ Blk wx H 32 #[.int .i64 m.k, .int .i64 m.f, .int .i64 m.t, .int .i64 m.s, .int .i64 m.br, .int .i64 m.bs, .int .i64 m.hr, .int .i64 m.hs, .bool m.so, .slice m.A m.n m.c] ∧ H ∉ M1.fp from
            ⟨M, h3, by rw [HTD.out]; rfl, rfl, by omega, UX.up M.fp, hB3, hHf⟩)
          clear h3 hB3
          repeat' ((fail_if_success (with_reducible refine stop_append rfl ?_)); first | go_values | go_skip | go_guarded | go_step | go_upon | (simp only []; go_at_K))
          go_meet
          exact ⟨rfl, KEY.out⟩
        | true =>
          have C3 := siteSkip wx M h3 (m.s + 1) (by omega)
          obtain ⟨⟨b0, b1, b2, b3, b4, b5, b6, b7, b8, b9⟩, -⟩ := hB3.c10
          have hw1 : IntKind.i64.wrap (m.s + 1) = m.s + 1 := by rw [IntKind.wrap_i64]; omega
          rw [SiteV.ptr] at C3
          repeat' ((fail_if_success (with_reducible refine stop_append rfl ?_)); first | go_values | go_skip | go_guarded | go_step | go_upon | (simp only []; go_at_K))
          ((with_reducible refine C3.mono ?_); rintro e w4 ⟨rfl, M1, H1, hp1, hg1, -, u1⟩)
          have KEY := Lib.hid (show ∃ M1, SiteS w4 M1 ∧ M1.pl = T ∧ M1.gs = M.gs ∧ M1.held.length ≤ 700000000 ∧ Upd M.fp M1.fp w w4 ∧ Blk w4 H 32 #[.int .i64 m.k, .int .i64 m.f, .int .i64 m.t, .int .i64 m.s, .int .i64 m.br, .int .i64 m.bs, .int .i64 m.hr, .int .i64 m.hs, .bool m.so, .slice m.A m.n m.c] ∧ H ∉ M1.fp from
            ⟨M1, H1, by rw [HTD.out, if_pos rfl]; exact hp1, hg1, by
              have h1 := congrArg (fun z : Site => z.held.length) hp1
              simp only [SiteV.held_len] at h1
              have h2 := Site.skip_held' M.pl (m.s + 1) h.ok.n7
              rw [SiteV.held_len] at h2
              omega, (UX.up M.fp).trans u1, hB3.upd u1 hHf, u1.notin hHf hB3.lt⟩)
          clear C3 H1 u1 hp1 h3 hB3 b0 b1 b2 b3 b4 b5 b6 b7 b8 b9
          repeat' ((fail_if_success (with_reducible refine stop_append rfl ?_)); first | go_values | go_skip | go_guarded | go_step | go_upon | (simp only []; go_at_K))
          go_meet
          exact ⟨rfl, KEY.out⟩
      case rest =>
        obtain ⟨rfl, M1, h4, hp4, hg4, hl4, U4, hB4, hH4⟩ := hcut
        have q7 : wc.cell? ⟨M.gs, 7, none⟩ = some (.pointer (some ⟨M1.gl, 0, none⟩)) := by rw [← hg4]; exact h4.blk.cell 7
        have C5 := learnTop wc M1.gl M1.bl M1.lv M1.taken h4.lrn
        obtain ⟨tp, htp⟩ : ∃ tp, topG M1.lv = tp := ⟨_, rfl⟩
        rw [htp] at C5
        have htp2 : topG T.lv = tp := by rw [← hp4, ← htp]; exact topG_map Bsl.b M1.lv
        have htr : 0 ≤ tp ∧ tp ≤ 4096 := by rw [← htp]; exact topG_range M1.lv (fun p hp => by have := h4.lrn.keys p hp; omega)
        have HTP := Lib.hid htp2
        clear htp htp2 h3 hB3 UX HD HDN HSO HO HTD HT
        repeat' ((fail_if_success (with_reducible refine stop_append rfl ?_)); first | go_values | go_skip | go_guarded | go_step | go_upon | (simp only []; go_at_K))
        ((with_reducible refine C5.mono ?_); rintro e w5 ⟨rfl, hu5⟩)
        have h5 := h4.upd0 hu5
        have hB5 := hB4.upd hu5 (by simp)
        have U5 := U4.trans (hu5.up M1.fp)
        clear C5 h4 hB4 U4 hu5 q7
        obtain ⟨⟨b0, b1, b2, b3, b4, b5, b6, b7, b8, b9⟩, -⟩ := hB5.c10
        obtain ⟨s0, hs0⟩ : ∃ s0 : Nat, m.s = (s0 : Int) := ⟨m.s.toNat, by omega⟩
        have hs0n : m.s.toNat = s0 := by omega
        have HR2 := HR.out
        rw [hs0n, HTP.out] at HR2
        have HR3 := Lib.hid HR2
        have HS0 := Lib.hid hs0
        rw [hs0] at b3
        clear HR2 hs0n hs0
        repeat' ((fail_if_success (with_reducible refine stop_append rfl ?_)); first | go_values | go_skip | go_guarded | go_step | go_upon | (simp only []; go_at_K))
        go_loopw [6, 8] (fun v6 v8 wr => ∃ (k y : Nat) (M2 : SiteV), v6 = .int .i64 (k : Int) ∧ v8 = .int .i64 ((s0 + y : Nat) : Int) ∧ k ≤ 16 ∧ (y = 0 ∨ ((s0 + y : Nat) : Int) ≤ tp) ∧ (decS T.dec s0 y).length = k ∧ SiteS wr M2 ∧ M2.pl = Site.tellsTo T.dec m.f T (decS T.dec s0 y) ∧ M2.gs = M.gs ∧ M2.held.length ≤ 700000000 + k ∧ Upd M.fp M2.fp w wr ∧ Blk wr H 32 #[.int .i64 m.k, .int .i64 m.f, .int .i64 m.t, .int .i64 m.s, .int .i64 m.br, .int .i64 m.bs, .int .i64 m.hr, .int .i64 m.hs, .bool m.so, .slice m.A m.n m.c] ∧ H ∉ M2.fp) (fun _ v8 _ => (4096 - intOf v8).toNat)
        case atStart => exact ⟨0, 0, M1, rfl, rfl, by omega, .inl rfl, rfl, h5, hp4, hg4, by omega, U5, hB5, hH4⟩
        case round =>
          obtain ⟨k, y, M2, rfl, rfl, hk, hy, hdk, h6, hp6, hg6, hl6, U6, hB6, hH6⟩ := hrel
          have HP6 := Lib.hid hp6
          have HDK := Lib.hid hdk
          clear hp6 hdk h5 hB5 U5 b0 b1 b2 b3 b4 b5 b6 b7 b8 b9
          by_cases hyt : ((s0 + y : Nat) : Int) < tp
          · have dyt : decide (((s0 + y : Nat) : Int) < tp) = true := decide_eq_true hyt
            by_cases hk16 : k < 16
            · have dk : decide ((k : Int) < 16) = true := decide_eq_true (by omega)
              have hki : (k : Int) < 16 := by omega
              have hw1 : IntKind.i64.wrap (((s0 + y : Nat) : Int) + 1) = ((s0 + (y + 1) : Nat) : Int) := by rw [IntKind.wrap_i64]; omega
              have hw2 : IntKind.i64.wrap ((k : Int) + 1) = ((k + 1 : Nat) : Int) := by rw [IntKind.wrap_i64]; omega
              have q7 : wr.cell? ⟨M.gs, 7, none⟩ = some (.pointer (some ⟨M2.gl, 0, none⟩)) := by rw [← hg6]; exact h6.blk.cell 7
              have hdec : (lookG ((s0 + y : Nat) : Int) M2.lv).map Bsl.b = T.dec ((s0 + y : Nat) : Int) := by
                rw [← SiteV.dec_pl, HP6.out]
                exact Site.tellsTo_dec _ _ _ _ _
              have C7 := learnGet wr M2.gl M2.bl M2.lv M2.taken h6.lrn h6.lvRd ((s0 + y : Nat) : Int) (wfI (by omega) (by omega))
              rw [show (lookG ((s0 + y : Nat) : Int) M2.lv).isSome = (T.dec ((s0 + y : Nat) : Int)).isSome by rw [← hdec, Option.isSome_map], hdec] at C7
              have hS := decS_succ T.dec s0 y
              obtain ⟨DV, hDV⟩ : ∃ DV, T.dec ((s0 + y : Nat) : Int) = DV := ⟨_, rfl⟩
              have hlen : ∀ v, DV = some v → v.length ≤ 2048 := fun v hv => by
                rw [← hDV, ← hdec] at hv
                cases hq : lookG ((s0 + y : Nat) : Int) M2.lv with
                | none => rw [hq] at hv; cases hv
                | some z =>
                  rw [hq] at hv
                  injection hv with hv
                  rw [← hv]
                  exact (h6.lrn.keys _ (lookG_some hq)).2.2
              have HDV := Lib.hid hDV
              rw [hDV] at C7 hS
              have HS := Lib.hid hS
              clear hdec hDV hS
              obtain ⟨sy, hsy⟩ : ∃ sy : Int, ((s0 + y : Nat) : Int) = sy := ⟨_, rfl⟩
              rw [hsy] at dyt hyt hw1 C7 HS HDV hy ⊢
              have HSY := Lib.hid hsy
              clear hsy
              repeat' ((fail_if_success (with_reducible refine stop_append rfl ?_)); first | go_values | go_skip | go_guarded | go_step | go_upon | (simp only []; go_at_K))
              ((with_reducible refine C7.mono ?_); rintro e w7 ⟨A7, n7, c7, rfl, ho7, hu7⟩)
              have h7 := h6.upd0 hu7
              have hA7 := (Upd.refl [] wr).new hu7
              have hB7 := hB6.upd hu7 (by simp)
              have U7 := U6.trans (hu7.up M2.fp)
              clear C7 q7
              cases DV with
              | none =>
                have hS2 := HS.out
                simp only [Option.isSome_none, Bool.false_eq_true, if_false, List.append_nil] at hS2
                have HS2 := Lib.hid hS2
                clear hS2 h6 hB6 U6 hu7
                repeat' ((fail_if_success (with_reducible refine stop_append rfl ?_)); first | go_values | go_skip | go_guarded | go_step | go_upon | (simp only []; go_at_K))
                refine ⟨⟨k, y + 1, M2, rfl, rfl, hk, .inr ?_, by rw [HS2.out]; exact HDK.out, h7, by rw [HS2.out]; exact HP6.out, hg6, hl6, U7, hB7, hH6⟩, ?_⟩
                · have := HSY.out; omega
                · have := HSY.out; simp only [intOf]; omega
              | some v =>
                have hvl := hlen v rfl
                have hS2 := HS.out
                simp only [Option.isSome_some, if_true] at hS2
                have HS2 := Lib.hid hS2
                have hA7f : ∀ x ∈ ablk A7, x ∉ M2.fp := fun x hx hm => by have h1 := hA7 x hx; have h2 := h6.lt x hm; omega
                have C8 := siteTells w7.drew sy A7 n7 c7 v
                have C9 := fun (w8 : World) (hu : Upd [] [] w7.drew w8) => siteSend w8 M2 (h7.drew.upd0 hu) m.f ⟨7, 0, 0, sy, 0, 0, 0, 0, true, A7, n7, c7, v⟩ (Site.tells_fit (x := sy) (v := v) (by have := HSY.out; omega) hvl) hfrm ((RdB.upd (show RdB w7.drew A7 n7 v from ho7.rd) hu (by simp))) (by omega)
                obtain ⟨⟨e0, e1, e2, e3, e4, e5, e6, e7, e8, e9⟩, -⟩ := hB7.drew.c10
                have hms : Mv.ms ⟨7, 0, 0, sy, 0, 0, 0, 0, true, A7, n7, c7, v⟩ = Site.tells sy v := rfl
                obtain ⟨tv, htv⟩ : ∃ tv, Mv.val ⟨7, 0, 0, sy, 0, 0, 0, 0, true, A7, n7, c7, v⟩ = tv := ⟨_, rfl⟩
                rw [htv] at C8
                simp only [hms, htv, SiteV.ptr, hg6] at C9
                clear hS2 h6 hB6 U6 hu7 htv hms hlen
                repeat' ((fail_if_success (with_reducible refine stop_append rfl ?_)); first | go_values | go_skip | go_guarded | go_step | go_upon | (simp only []; go_at_K))
                go_region_with (first
                  | (go_at_call 118; (with_reducible refine C8.mono ?_); rintro e w8 ⟨rfl, hu8⟩; have e1b := hu8.cell e1 (by simp))
                  | (go_at_call 64; (with_reducible refine (C9 w8 hu8).mono ?_); rintro e w9 ⟨rfl, M9, h9, hp9, hg9, -, U9⟩))
                all_goals (repeat' ((fail_if_success (with_reducible refine stop_append rfl ?_)); first | go_values | go_skip | go_guarded | go_step | go_upon | (simp only []; go_at_K)))
                all_goals
                  have U79 : Upd M.fp M9.fp w w9 := ((U7.drew.trans (hu8.up M2.fp)).trans U9)
                  have B9 := ((hB7.drew.upd hu8 (by simp)).upd U9 hH6)
                  have l9 : M9.held.length ≤ 700000000 + (k + 1) := by
                    have h1 := congrArg (fun z : Site => z.held.length) hp9
                    simp only [SiteV.held_len, Site.send, List.length_append, List.length_cons, List.length_nil] at h1
                    omega
                  have p9 : M9.pl = Site.tellsTo T.dec m.f T (decS T.dec s0 (y + 1)) := by
                    rw [HS2.out, Site.tellsTo_snoc, hp9, HP6.out, HDV.out]; rfl
                  refine ⟨⟨k + 1, y + 1, M9, rfl, rfl, by omega, .inr ?_, by rw [HS2.out, List.length_append, HDK.out]; rfl, h9, p9, hg9.trans hg6, l9, U79, B9, U9.notin hH6 (by have := (hB7.drew.upd hu8 (by simp)).lt; exact this)⟩, ?_⟩
                  · have := HSY.out; omega
                  · have := HSY.out; simp only [intOf]; omega
            · have dk : decide ((k : Int) < 16) = false := decide_eq_false (by omega)
              have hk2 : decide (k < 16) = false := decide_eq_false hk16
              have hkk : k = 16 := by omega
              have hRR : R = M2.pl := by
                rw [HR3.out, HP6.out, decS_take T.dec s0 y (tp.toNat - s0) (by omega) (by rw [HDK.out]; exact hk) (.inr (by rw [HDK.out]; exact hkk))]
              have KEY := Lib.hid (show Gone w wr M R from ⟨M2, h6, hRR.symm, hg6, U6⟩)
              have HKK := Lib.hid hkk
              clear hRR h6 U6 hB6 hkk
              repeat' ((fail_if_success (with_reducible refine stop_append rfl ?_)); first | go_values | go_skip | go_guarded | go_step | go_upon | (simp only []; go_at_K))
              exact bodyPost_end (results_none rfl _ _ _) rfl ⟨rfl, KEY.out⟩
          · have dyt : decide (((s0 + y : Nat) : Int) < tp) = false := decide_eq_false hyt
            have hRR : R = M2.pl := by
              have hN : y = tp.toNat - s0 := by rcases hy with h1 | h1 <;> omega
              rw [HR3.out, HP6.out, decS_take T.dec s0 y (tp.toNat - s0) (by omega) (by rw [HDK.out]; exact hk) (.inl hN)]
            have KEY := Lib.hid (show Gone w wr M R from ⟨M2, h6, hRR.symm, hg6, U6⟩)
            obtain ⟨sy, hsy⟩ : ∃ sy : Int, ((s0 + y : Nat) : Int) = sy := ⟨_, rfl⟩
            rw [hsy] at dyt hyt ⊢
            clear hRR h6 U6 hB6 hsy
            repeat' ((fail_if_success (with_reducible refine stop_append rfl ?_)); first | go_values | go_skip | go_guarded | go_step | go_upon | (simp only []; go_at_K))
            exact bodyPost_end (results_none rfl _ _ _) rfl ⟨rfl, KEY.out⟩
end Go.Proofs.YtijhlbeipglieaaGreat
