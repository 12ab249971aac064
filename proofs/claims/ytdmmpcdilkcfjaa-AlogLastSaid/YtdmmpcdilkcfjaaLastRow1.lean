/- agiolaw07.AlogLast. -/
import Derived.Test.YtdmmpcdilkcfjaaLast
import Derived.Test.YtdmmpcdilkcfjaaSlots
import Derived.Test.YtdmmpcdilkcfjaaAlog9
import Derived.Test.YtdmmpcdilkcfjaaAlogA
import Derived.Test.YtdmmpcdilkcfjaaOwnRow
namespace Go.Proofs.Ytdmmpcdilkcfjaa
open Go.RowKit Agio

theorem Rvs.own {w : World} {e : TypeId} {A : Option Addr} {n c : Nat} {l : List Rv} (h : Agio.Own e 5 w A n c (l.flatMap Rv.cells)) (hb : ∀ x ∈ l, RdB w x.A x.n x.b) : Rvs w A n l :=
  ⟨⟨by have := h.len; rw [flat_len Rv.cells_len] at this; omega, h.rd⟩, hb⟩
theorem rvs_one (l : List Rv) : ∀ u ∈ l.flatMap Rv.cells, u.oneCell' = true := fun u hu => by
  obtain ⟨x, _, hx⟩ := List.mem_flatMap.1 hu
  simp only [Rv.cells, List.mem_cons, List.not_mem_nil, or_false] at hx
  rcases hx with rfl | rfl | rfl | rfl | rfl <;> rfl

/-- 'append(append([]Rec{}, l...), r)', at one order: what both appends do. -/
theorem two_apps (W : World) (A : Option Addr) (n c : Nat) (l : List Rv) (h : Rvs W A n l) (hl : l.length ≤ 1000) (H : Nat) (hown : Agio.Own 77 5 W (some ⟨H, 0, none⟩) 0 0 []) :
    ∃ A' c' w', (Builtin.append_ #[61, 61] 61 #[.slice (some ⟨H, 0, none⟩) 0 0, .slice A n c]).run Try.prog W = .ok (.slice A' l.length c') w' ∧ Agio.Own 77 5 w' A' l.length c' (l.flatMap Rv.cells) ∧ Upd [H] (ablk A') W w' := by
  have hn := h.len
  subst hn
  have := run_app W 61 61 77 Try.underlying61 infoRec1 rfl (by decide) (some ⟨H, 0, none⟩) 0 0 [] hown A l.length c (l.flatMap Rv.cells) h.rd.rd (rvs_one l) (by unfold maxLen; omega) (by omega)
  rw [Nat.zero_add, List.nil_append] at this
  exact this

theorem push_app (V : World) (A : Option Addr) (n c : Nat) (l : List Rv) (h : Agio.Own 77 5 V A n c (l.flatMap Rv.cells)) (hl : n ≤ 1000) (r : Rv) (H : Nat) (hB : Blk V H 77 #[.int .i64 r.k, .int .i64 r.s, .int .i64 r.r, .int .i64 r.t, .slice r.A r.n r.c]) :
    ∃ A' c' w', (Builtin.append_ #[61, 61] 61 #[.slice A n c, .slice (some ⟨H, 0, none⟩) 1 1]).run Try.prog V = .ok (.slice A' (n + 1) c') w' ∧ Agio.Own 77 5 w' A' (n + 1) c' ((l ++ [r]).flatMap Rv.cells) ∧ Upd (ablk A) (ablk A') V w' := by
  have := run_app V 61 61 77 Try.underlying61 infoRec1 rfl (by decide) A n c _ h (some ⟨H, 0, none⟩) 1 1 r.cells (Rd.blk hB rfl) (by simpa using rvs_one [r]) (by unfold maxLen; omega) (by omega)
  rw [show l.flatMap Rv.cells ++ r.cells = (l ++ [r]).flatMap Rv.cells by simp] at this
  exact this

set_option maxRecDepth 100000 in
set_option maxHeartbeats 8000000 in
theorem alogLast_any (w : World) (A : Option Addr) (n c : Nat) (l : List Rv) (hr : Rvs w A n l) (hlm : ∀ x ∈ l, x.b.length ≤ 140737488355328 ∧ (Lit.int .i64 x.s).wf = true)
    (r : Rv) (hR : RdB w r.A r.n r.b) (hrm : r.b.length ≤ 140737488355328 ∧ (Lit.int .i64 r.s).wf = true) (slot : Int) :
    Calls Try.prog 6 #[.slice A n c, r.val, .int .i64 slot] w fun e w' => e = .returned (.bool true) ∧ Upd [] [] w w' := by
  have hn := hr.len
  subst hn
  have U0 : Upd [] [] w (w.alloc (.cells #[.int .i64 r.k, .int .i64 r.s, .int .i64 r.r, .int .i64 r.t, .slice r.A r.n r.c] 77)) := (Upd.refl _ _).alloc _
  have hB0 := Blk.new w 77 #[.int .i64 r.k, .int .i64 r.s, .int .i64 r.r, .int .i64 r.t, .slice r.A r.n r.c]
  obtain ⟨b4, hb4⟩ : ∃ b, w.heap.size = b := ⟨_, rfl⟩
  obtain ⟨W0, eW⟩ : ∃ W, w.alloc (.cells #[.int .i64 r.k, .int .i64 r.s, .int .i64 r.r, .int .i64 r.t, .slice r.A r.n r.c] 77) = W := ⟨_, rfl⟩
  rw [eW] at U0 hB0
  rw [hb4] at hB0
  rw [Rv.val_eq]
  go_enter Try.func6, Try.ntmps6
  repeat' ((fail_if_success (with_reducible refine stop_append rfl ?_)); (fail_if_success (with_reducible refine stop_copy rfl ?_)); first | go_values | go_skip | go_guarded | go_step | go_upon | (simp only []; go_at_K))
  ((with_reducible refine (awake07 _).mono ?_); rintro e w1 ⟨rfl, hu1⟩)
  have U1 := U0.trans hu1
  have hB1 := hB0.upd hu1 (by simp)
  have hr1 := hr.upd U1
  have hR1 := hR.upd U1 (by simp)
  clear U0 hB0 hr hR hu1 eW hb4
  by_cases h100 : 100 < l.length
  · have hg : (100 : Int) < (l.length : Int) := by omega
    clear hB1 hr1 hR1 hlm hrm
    repeat' ((fail_if_success (with_reducible refine stop_append rfl ?_)); (fail_if_success (with_reducible refine stop_copy rfl ?_)); first | go_values | go_skip | go_guarded | go_step | go_upon | (simp only []; go_at_K))
    go_ret
    exact ⟨rfl, U1⟩
  · have hg : ¬ ((100 : Int) < (l.length : Int)) := by omega
    have h1000 : l.length ≤ 1000 := by omega
    repeat' ((fail_if_success (with_reducible refine stop_append rfl ?_)); (fail_if_success (with_reducible refine stop_copy rfl ?_)); first | go_values | go_skip | go_guarded | go_step | go_upon | (simp only []; go_at_K))
    go_cut [8] from 20 (fun s8 wc => ∃ A8 c8, s8 = .slice A8 (l.length + 1) c8 ∧ Rvs wc A8 (l.length + 1) (l ++ [r]) ∧ Upd [] [] w1 wc)
    case first =>
      have n0 : ∀ x ∈ l ++ [r], RdB w1 x.A x.n x.b := fun x hx => by
        rcases List.mem_append.1 hx with hx | hx
        · exact hr1.each x hx
        · rw [List.mem_singleton.1 hx]; exact hR1
      have FIN : ∀ (A8 : Option Addr) (c8 : Nat) (V : World), Agio.Own 77 5 V A8 (l.length + 1) c8 ((l ++ [r]).flatMap Rv.cells) → Upd [] [] w1 V → Rvs V A8 (l.length + 1) (l ++ [r]) ∧ Upd [] [] w1 V := fun A8 c8 V ho hu =>
        ⟨Rvs.own ho fun x hx => (n0 x hx).upd hu (by simp), hu⟩
      obtain ⟨X1, eX1⟩ : ∃ X, w1.alloc (.cells #[] 77) = X := ⟨_, rfl⟩
      obtain ⟨Y1, eY1⟩ : ∃ X, X1.alloc (.cells #[.int .i64 r.k, .int .i64 r.s, .int .i64 r.r, .int .i64 r.t, .slice r.A r.n r.c] 77) = X := ⟨_, rfl⟩
      obtain ⟨Z1, eZ1⟩ : ∃ X, w1.alloc (.cells #[.int .i64 r.k, .int .i64 r.s, .int .i64 r.r, .int .i64 r.t, .slice r.A r.n r.c] 77) = X := ⟨_, rfl⟩
      obtain ⟨Z2, eZ2⟩ : ∃ X, Z1.alloc (.cells #[] 77) = X := ⟨_, rfl⟩
      have OX : Agio.Own 77 5 X1 (some ⟨w1.heap.size, 0, none⟩) 0 0 [] := by rw [← eX1]; exact Own.made _ _ _
      have OZ : Agio.Own 77 5 Z2 (some ⟨Z1.heap.size, 0, none⟩) 0 0 [] := by rw [← eZ2]; exact Own.made _ _ _
      have BY : Blk Y1 X1.heap.size 77 #[.int .i64 r.k, .int .i64 r.s, .int .i64 r.r, .int .i64 r.t, .slice r.A r.n r.c] := by rw [← eY1]; exact Blk.new _ _ _
      have BZ : Blk Z2 w1.heap.size 77 #[.int .i64 r.k, .int .i64 r.s, .int .i64 r.r, .int .i64 r.t, .slice r.A r.n r.c] := by rw [← eZ2, ← eZ1]; exact (Blk.new _ _ _).alloc _
      have UX : Upd [] [] w1 X1 := by rw [← eX1]; exact (Upd.refl [] w1).alloc _
      have UY : Upd [] [] w1 Y1 := by rw [← eY1]; exact UX.alloc _
      have UZ : Upd [] [] w1 Z1 := by rw [← eZ1]; exact (Upd.refl [] w1).alloc _
      have UZ2 : Upd [] [] w1 Z2 := by rw [← eZ2]; exact UZ.alloc _
      have hx1 : w1.heap.size ≠ X1.heap.size := by rw [← eX1]; simp
      have hz1 : w1.heap.size ≠ Z1.heap.size := by rw [← eZ1]; simp
      have hz2 := UZ.size
      -- the order of the text
      obtain ⟨P1, d1, v1, R1, o1, u1⟩ := two_apps X1.drew A l.length c l (hr1.upd UX.drew) h1000 w1.heap.size OX.drew
      have E1 : Upd [] [] w1 v1 := ((UX.drew.gives (b' := [w1.heap.size]) (by simp)).trans u1).gives (by simp)
      obtain ⟨V1, eV1⟩ : ∃ X, v1.alloc (.cells #[.int .i64 r.k, .int .i64 r.s, .int .i64 r.r, .int .i64 r.t, .slice r.A r.n r.c] 77) = X := ⟨_, rfl⟩
      have OV : Agio.Own 77 5 V1 P1 l.length d1 (l.flatMap Rv.cells) := by rw [← eV1]; exact o1.alloc _
      have BV : Blk V1 v1.heap.size 77 #[.int .i64 r.k, .int .i64 r.s, .int .i64 r.r, .int .i64 r.t, .slice r.A r.n r.c] := by rw [← eV1]; exact Blk.new _ _ _
      have UV : Upd [] (ablk P1) w1 V1 := by rw [← eV1]; exact ((UX.drew.gives (b' := [w1.heap.size]) (by simp)).trans u1).alloc _
      obtain ⟨Q1, e1, z1, S1, t1, y1⟩ := push_app V1 P1 l.length d1 l OV h1000 r v1.heap.size BV
      have F1 : Upd [] [] w1 z1 := (UV.trans y1).gives (by simp)
      -- r is built between
      obtain ⟨P2, d2, v2, R2, o2, u2⟩ := two_apps Y1.drew A l.length c l (hr1.upd UY.drew) h1000 w1.heap.size (show Agio.Own 77 5 Y1.drew _ 0 0 [] by rw [← eY1]; exact (OX.alloc _).drew)
      obtain ⟨Q2, e2, z2, S2, t2, y2⟩ := push_app v2 P2 l.length d2 l o2 h1000 r X1.heap.size (BY.drew.upd u2 (by simpa using hx1.symm))
      have F2 : Upd [] [] w1 z2 := ((((UY.drew.gives (b' := [w1.heap.size]) (by simp)).trans u2).trans y2)).gives (by simp)
      -- r is built first
      obtain ⟨P3, d3, v3, R3, o3, u3⟩ := two_apps Z2.drew A l.length c l (hr1.upd UZ2.drew) h1000 Z1.heap.size OZ.drew
      obtain ⟨Q3, e3, z3, S3, t3, y3⟩ := push_app v3 P3 l.length d3 l o3 h1000 r w1.heap.size (BZ.drew.upd u3 (by simpa using hz1))
      have F3 : Upd [] [] w1 z3 := ((((UZ2.drew.gives (b' := [Z1.heap.size]) (by simpa using hz2)).trans u3).trans y3)).gives (by simp)
      have G1 := FIN _ _ _ t1 F1
      have G2 := FIN _ _ _ t2 F2
      have G3 := FIN _ _ _ t3 F3
      obtain ⟨⟨a0, a1, a2, a3, a4⟩, -⟩ := hB1.c5
      obtain ⟨⟨b0, b1, b2, b3, b4'⟩, -⟩ := (hB1.upd UX (by simp)).c5
      obtain ⟨⟨c0, c1, c2, c3, c4⟩, -⟩ := (hB1.upd E1 (by simp)).c5
      have HG1 := Lib.hid G1
      have HG2 := Lib.hid G2
      have HG3 := Lib.hid G3
      clear G1 G2 G3 t1 t2 t3 F1 F2 F3 y1 y2 y3 o1 o2 o3 u1 u2 u3 E1 FIN n0 hr1 hR1 hB1 OX OZ BY BZ UX UY UZ UZ2 hx1 hz1 hz2 OV BV UV
      go_region_law (first
        | refine step_run rfl (.tmp 20) (.tmp 21) 61 rfl (.slice (some ⟨w1.heap.size, 0, none⟩) 0 0) (.slice A l.length c) _ v1 rfl rfl R1 ?_
        | refine step_run rfl (.tmp 20) (.tmp 21) 61 rfl (.slice (some ⟨w1.heap.size, 0, none⟩) 0 0) (.slice A l.length c) _ v2 rfl rfl R2 ?_
        | refine step_run rfl (.tmp 20) (.tmp 21) 61 rfl (.slice (some ⟨Z1.heap.size, 0, none⟩) 0 0) (.slice A l.length c) _ v3 rfl rfl R3 ?_
        | refine step_run rfl (.tmp 22) (.tmp 24) 61 rfl (.slice P1 l.length d1) (.slice (some ⟨v1.heap.size, 0, none⟩) 1 1) _ z1 rfl rfl S1 ?_
        | refine step_run rfl (.tmp 22) (.tmp 24) 61 rfl (.slice P2 l.length d2) (.slice (some ⟨X1.heap.size, 0, none⟩) 1 1) _ z2 rfl rfl S2 ?_
        | refine step_run rfl (.tmp 22) (.tmp 24) 61 rfl (.slice P3 l.length d3) (.slice (some ⟨w1.heap.size, 0, none⟩) 1 1) _ z3 rfl rfl S3 ?_)
      all_goals (repeat' ((fail_if_success (with_reducible refine stop_append rfl ?_)); (fail_if_success (with_reducible refine stop_copy rfl ?_)); first | go_values | go_skip | go_guarded | go_step | go_upon | (simp only []; go_at_K)))
      all_goals go_meet
      all_goals first
        | exact ⟨Q1, e1, rfl, HG1.out⟩
        | exact ⟨Q2, e2, rfl, HG2.out⟩
        | exact ⟨Q3, e3, rfl, HG3.out⟩
    case rest =>
      obtain ⟨A8, c8, rfl, hM, hu8⟩ := hcut
      have hr8 := hr1.upd hu8
      have hR8 := hR1.upd hu8 (by simp)
      have hB8 := hB1.upd hu8 (by simp)
      have U8 := U1.trans hu8
      clear hr1 hR1 hB1 hu8 U1
      obtain ⟨⟨q0, q1, q2, q3, q4⟩, -⟩ := hB8.c5
      have hlM : (l ++ [r]).length ≤ 1000000 := by simp; omega
      have hbM : ∀ x ∈ l ++ [r], x.b.length ≤ 140737488355328 := fun x hx => by
        rcases List.mem_append.1 hx with hx | hx
        · exact (hlm x hx).1
        · rw [List.mem_singleton.1 hx]; exact hrm.1
      have hwM : ∀ x ∈ l ++ [r], (Lit.int .i64 x.s).wf = true := fun x hx => by
        rcases List.mem_append.1 hx with hx | hx
        · exact (hlm x hx).2
        · rw [List.mem_singleton.1 hx]; exact hrm.2
      have L1 : lastR r.k r.s (l ++ [r]) = some r := by rw [lastR_snoc, if_pos ⟨rfl, rfl⟩]
      have C1 := alogLast wc A8 (l.length + 1) c8 (l ++ [r]) hM hlM hbM r.k r.s
      rw [L1] at C1
      simp only [Option.getD_some, Option.isSome_some] at C1
      repeat' ((fail_if_success (with_reducible refine stop_append rfl ?_)); (fail_if_success (with_reducible refine stop_copy rfl ?_)); first | go_values | go_skip | go_guarded | go_step | go_upon | (simp only []; go_at_K))
      ((with_reducible refine C1.mono ?_); rintro e w2 ⟨⟨x, hx, hxr, rfl⟩, hu2⟩)
      rw [Rv.val_eq]
      have UBx : Upd [] [] w2 (w2.alloc (.cells #[.int .i64 x.k, .int .i64 x.s, .int .i64 x.r, .int .i64 x.t, .slice x.A x.n x.c] 77)) := (Upd.refl _ _).alloc _
      have hNx := Blk.new w2 77 #[.int .i64 x.k, .int .i64 x.s, .int .i64 x.r, .int .i64 x.t, .slice x.A x.n x.c]
      obtain ⟨W3, eW3⟩ : ∃ V, w2.alloc (.cells #[.int .i64 x.k, .int .i64 x.s, .int .i64 x.r, .int .i64 x.t, .slice x.A x.n x.c] 77) = V := ⟨_, rfl⟩
      obtain ⟨b9, eb9⟩ : ∃ b, w2.heap.size = b := ⟨_, rfl⟩
      rw [eW3] at UBx hNx
      rw [eb9] at hNx
      have V3 := hu2.trans UBx
      have hM3 := hM.upd V3
      have hr3 := hr8.upd V3
      have hR3 := hR8.upd V3 (by simp)
      have hx3 := hxr.upd UBx (by simp)
      have hB3 := hB8.upd V3 (by simp)
      have U3 := U8.trans V3
      have C2 := alogLast W3 A l.length c l hr3 (by omega) (fun x hx => (hlm x hx).1) 1 slot
      have HX := Lib.hid hx
      clear hM hr8 hR8 hB8 U8 hxr hu2 V3 UBx C1 q0 q1 q2 q3 q4 hx L1
      repeat' ((fail_if_success (with_reducible refine stop_append rfl ?_)); (fail_if_success (with_reducible refine stop_copy rfl ?_)); first | go_values | go_skip | go_guarded | go_step | go_upon | (simp only []; go_at_K))
      ((with_reducible refine C2.mono ?_); rintro e w4 ⟨⟨y, hy, hyr, rfl⟩, hu4⟩)
      rw [Rv.val_eq]
      have UBy : Upd [] [] w4 (w4.alloc (.cells #[.int .i64 y.k, .int .i64 y.s, .int .i64 y.r, .int .i64 y.t, .slice y.A y.n y.c] 77)) := (Upd.refl _ _).alloc _
      have hNy := Blk.new w4 77 #[.int .i64 y.k, .int .i64 y.s, .int .i64 y.r, .int .i64 y.t, .slice y.A y.n y.c]
      obtain ⟨W5, eW5⟩ : ∃ V, w4.alloc (.cells #[.int .i64 y.k, .int .i64 y.s, .int .i64 y.r, .int .i64 y.t, .slice y.A y.n y.c] 77) = V := ⟨_, rfl⟩
      obtain ⟨b11, eb11⟩ : ∃ b, w4.heap.size = b := ⟨_, rfl⟩
      rw [eW5] at UBy hNy
      rw [eb11] at hNy
      have V5 := hu4.trans UBy
      have hM5 := hM3.upd V5
      have hr5 := hr3.upd V5
      have hR5 := hR3.upd V5 (by simp)
      have hx5 := hx3.upd V5 (by simp)
      have hy5 := hyr.upd UBy (by simp)
      have hB5 := hB3.upd V5 (by simp)
      have hX5 := hNx.upd V5 (by simp)
      have U5 := U3.trans V5
      have C3 := alogLast W5 A8 (l.length + 1) c8 (l ++ [r]) hM5 hlM hbM 1 slot
      have HY := Lib.hid hy
      clear hM3 hr3 hR3 hB3 U3 hyr hu4 V5 UBy C2 hx3 hNx hy eW3 eb9
      repeat' ((fail_if_success (with_reducible refine stop_append rfl ?_)); (fail_if_success (with_reducible refine stop_copy rfl ?_)); first | go_values | go_skip | go_guarded | go_step | go_upon | (simp only []; go_at_K))
      ((with_reducible refine C3.mono ?_); rintro e w6 ⟨⟨z, hz, hzr, rfl⟩, hu6⟩)
      rw [Rv.val_eq]
      have UBz : Upd [] [] w6 (w6.alloc (.cells #[.int .i64 z.k, .int .i64 z.s, .int .i64 z.r, .int .i64 z.t, .slice z.A z.n z.c] 77)) := (Upd.refl _ _).alloc _
      have hNz := Blk.new w6 77 #[.int .i64 z.k, .int .i64 z.s, .int .i64 z.r, .int .i64 z.t, .slice z.A z.n z.c]
      obtain ⟨W7, eW7⟩ : ∃ V, w6.alloc (.cells #[.int .i64 z.k, .int .i64 z.s, .int .i64 z.r, .int .i64 z.t, .slice z.A z.n z.c] 77) = V := ⟨_, rfl⟩
      obtain ⟨b13, eb13⟩ : ∃ b, w6.heap.size = b := ⟨_, rfl⟩
      rw [eW7] at UBz hNz
      rw [eb13] at hNz
      have V7 := hu6.trans UBz
      have hM7 := hM5.upd V7
      have hr7 := hr5.upd V7
      have hR7 := hR5.upd V7 (by simp)
      have hx7 := hx5.upd V7 (by simp)
      have hy7 := hy5.upd V7 (by simp)
      have hz7 := hzr.upd UBz (by simp)
      have hB7 := hB5.upd V7 (by simp)
      have hX7 := hX5.upd V7 (by simp)
      have hY7 := hNy.upd V7 (by simp)
      have U7 := U5.trans V7
      have HZ := Lib.hid hz
      clear hM5 hr5 hR5 hB5 U5 hzr hu6 V7 UBz C3 hx5 hX5 hNy hz eW5 eb11 hy5 hlM hbM
      obtain ⟨⟨q0, q1, q2, q3, q4⟩, -⟩ := hB7.c5
      obtain ⟨⟨x0, x1, x2, x3, x4⟩, -⟩ := hX7.c5
      obtain ⟨⟨y0, y1, y2, y3, y4⟩, -⟩ := hY7.c5
      obtain ⟨⟨z0, z1, z2, z3, z4⟩, -⟩ := hNz.c5
      by_cases hfit : r.k = 1 ∧ r.s = slot
      · obtain ⟨f1, f2⟩ := hfit
        have L3 : lastR 1 slot (l ++ [r]) = some r := by rw [lastR_snoc, if_pos ⟨f1, f2⟩]
        have hzz := HZ.out
        rw [L3, Option.getD_some] at hzz
        rw [L3, Option.isSome_some]
        have hk1 : (r.k == 1) = true := by rw [f1]; rfl
        have hs1 : (r.s == slot) = true := by rw [f2]; exact beq_self_eq_true _
        have D1 := law07One x r W7 hx7 hR7 HX.out
        have D2 := fun (V : World) (hv : Upd [] [] W7 V) => law07One z r V (hz7.upd hv (by simp)) (hR7.upd hv (by simp)) hzz
        clear f1 f2 L3 hzz HZ HX HY hM7 hr7 hR7 hx7 hy7 hz7 hwM hlm hrm
        repeat' ((fail_if_success (with_reducible refine stop_append rfl ?_)); (fail_if_success (with_reducible refine stop_copy rfl ?_)); first | go_values | go_skip | go_guarded | go_step | go_upon | (simp only []; go_at_K))
        ((with_reducible refine D1.mono ?_); rintro e w8 ⟨rfl, hu8⟩)
        obtain ⟨⟨r0, r1, r2, r3, r4⟩, -⟩ := (hB7.upd hu8 (by simp)).c5
        obtain ⟨⟨s0, s1, s2, s3, s4⟩, -⟩ := (hNz.upd hu8 (by simp)).c5
        repeat' ((fail_if_success (with_reducible refine stop_append rfl ?_)); (fail_if_success (with_reducible refine stop_copy rfl ?_)); first | go_values | go_skip | go_guarded | go_step | go_upon | (simp only []; go_at_K))
        ((with_reducible refine (D2 _ hu8).mono ?_); rintro e w9 ⟨rfl, hu9⟩)
        repeat' ((fail_if_success (with_reducible refine stop_append rfl ?_)); (fail_if_success (with_reducible refine stop_copy rfl ?_)); first | go_values | go_skip | go_guarded | go_step | go_upon | (simp only []; go_at_K))
        go_ret
        exact ⟨rfl, (U7.trans hu8).trans hu9⟩
      · have L3 : lastR 1 slot (l ++ [r]) = lastR 1 slot l := by rw [lastR_snoc, if_neg hfit]
        have hzz := HZ.out
        rw [L3] at hzz
        rw [L3]
        have hyz : y.rc = z.rc := HY.out.trans hzz.symm
        have hff : ((lastR 1 slot l).isSome == (lastR 1 slot l).isSome) = true := beq_self_eq_true _
        have D1 := law07One x r W7 hx7 hR7 HX.out
        have D2 := fun (V : World) (hv : Upd [] [] W7 V) => law07One y z V (hy7.upd hv (by simp)) (hz7.upd hv (by simp)) hyz
        have D3 := fun (V : World) (hv : Upd [] [] W7 V) => alogSlots V A8 (l.length + 1) c8 (l ++ [r]) (hM7.upd hv) (by simp; omega) hwM
        have D4 := fun (V : World) (hv : Upd [] [] W7 V) => alogSlots V A l.length c l (hr7.upd hv) h1000 (fun x hx => (hlm x hx).2)
        have hle : ((slotsL l).length : Int) ≤ ((slotsL (l ++ [r])).length : Int) := by
          have := (insU_len r.s (slotsL l)).1
          rw [slotsL_snoc]; omega
        generalize (lastR 1 slot l).isSome = ff at *
        have e' : r.k = 1 → r.s = slot → False := fun h1 h2 => hfit ⟨h1, h2⟩
        have HU := Lib.hid U7
        clear L3 hzz HZ HX HY hM7 hr7 hR7 hx7 hy7 hz7 hwM hlm hrm hyz hfit
        by_cases f1 : r.k = 1
        · have hk1 : (r.k == 1) = true := by rw [f1]; rfl
          have hs1 : (r.s == slot) = false := beq_false_of_ne (e' f1)
          clear e' f1
          repeat' ((fail_if_success (with_reducible refine stop_append rfl ?_)); (fail_if_success (with_reducible refine stop_copy rfl ?_)); first | go_values | go_skip | go_guarded | go_step | go_upon | (simp only []; go_at_K))
          ((with_reducible refine D1.mono ?_); rintro e w8 ⟨rfl, hu8⟩)
          obtain ⟨⟨r0, r1, r2, r3, r4⟩, -⟩ := (hY7.upd hu8 (by simp)).c5
          obtain ⟨⟨s0, s1, s2, s3, s4⟩, -⟩ := (hNz.upd hu8 (by simp)).c5
          clear D1 q0 q1 q2 q3 q4 x0 x1 x2 x3 x4 y0 y1 y2 y3 y4 z0 z1 z2 z3 z4
          repeat' ((fail_if_success (with_reducible refine stop_append rfl ?_)); (fail_if_success (with_reducible refine stop_copy rfl ?_)); first | go_values | go_skip | go_guarded | go_step | go_upon | (simp only []; go_at_K))
          ((with_reducible refine (D2 _ hu8).mono ?_); rintro e w9 ⟨rfl, hu9⟩)
          have V9 := hu8.trans hu9
          clear D2 r0 r1 r2 r3 r4 s0 s1 s2 s3 s4
          repeat' ((fail_if_success (with_reducible refine stop_append rfl ?_)); (fail_if_success (with_reducible refine stop_copy rfl ?_)); first | go_values | go_skip | go_guarded | go_step | go_upon | (simp only []; go_at_K))
          ((with_reducible refine (D3 _ V9).mono ?_); rintro e w10 ⟨A10, c10, rfl, -, hu10⟩)
          have V10 := (V9.trans hu10).gives (b' := []) (by simp)
          clear D3
          repeat' ((fail_if_success (with_reducible refine stop_append rfl ?_)); (fail_if_success (with_reducible refine stop_copy rfl ?_)); first | go_values | go_skip | go_guarded | go_step | go_upon | (simp only []; go_at_K))
          ((with_reducible refine (D4 _ V10).mono ?_); rintro e w11 ⟨A11, c11, rfl, -, hu11⟩)
          have V11 := (V10.trans hu11).gives (b' := []) (by simp)
          clear D4
          repeat' ((fail_if_success (with_reducible refine stop_append rfl ?_)); (fail_if_success (with_reducible refine stop_copy rfl ?_)); first | go_values | go_skip | go_guarded | go_step | go_upon | (simp only []; go_at_K))
          go_ret
          exact ⟨rfl, HU.out.trans V11⟩
        · have hk1 : (r.k == 1) = false := beq_false_of_ne f1
          clear e' f1
          repeat' ((fail_if_success (with_reducible refine stop_append rfl ?_)); (fail_if_success (with_reducible refine stop_copy rfl ?_)); first | go_values | go_skip | go_guarded | go_step | go_upon | (simp only []; go_at_K))
          ((with_reducible refine D1.mono ?_); rintro e w8 ⟨rfl, hu8⟩)
          obtain ⟨⟨r0, r1, r2, r3, r4⟩, -⟩ := (hY7.upd hu8 (by simp)).c5
          obtain ⟨⟨s0, s1, s2, s3, s4⟩, -⟩ := (hNz.upd hu8 (by simp)).c5
          clear D1 q0 q1 q2 q3 q4 x0 x1 x2 x3 x4 y0 y1 y2 y3 y4 z0 z1 z2 z3 z4
          repeat' ((fail_if_success (with_reducible refine stop_append rfl ?_)); (fail_if_success (with_reducible refine stop_copy rfl ?_)); first | go_values | go_skip | go_guarded | go_step | go_upon | (simp only []; go_at_K))
          ((with_reducible refine (D2 _ hu8).mono ?_); rintro e w9 ⟨rfl, hu9⟩)
          have V9 := hu8.trans hu9
          clear D2 r0 r1 r2 r3 r4 s0 s1 s2 s3 s4
          repeat' ((fail_if_success (with_reducible refine stop_append rfl ?_)); (fail_if_success (with_reducible refine stop_copy rfl ?_)); first | go_values | go_skip | go_guarded | go_step | go_upon | (simp only []; go_at_K))
          ((with_reducible refine (D3 _ V9).mono ?_); rintro e w10 ⟨A10, c10, rfl, -, hu10⟩)
          have V10 := (V9.trans hu10).gives (b' := []) (by simp)
          clear D3
          repeat' ((fail_if_success (with_reducible refine stop_append rfl ?_)); (fail_if_success (with_reducible refine stop_copy rfl ?_)); first | go_values | go_skip | go_guarded | go_step | go_upon | (simp only []; go_at_K))
          ((with_reducible refine (D4 _ V10).mono ?_); rintro e w11 ⟨A11, c11, rfl, -, hu11⟩)
          have V11 := (V10.trans hu11).gives (b' := []) (by simp)
          clear D4
          repeat' ((fail_if_success (with_reducible refine stop_append rfl ?_)); (fail_if_success (with_reducible refine stop_copy rfl ?_)); first | go_values | go_skip | go_guarded | go_step | go_upon | (simp only []; go_at_K))
          go_ret
          exact ⟨rfl, HU.out.trans V11⟩
end Go.Proofs.Ytdmmpcdilkcfjaa
