/- agiolaw13.NetPlays. -/
import Derived.Test.YtlkgmedkphcjpaaPlayM
import Derived.Deep.RegionHeld3
namespace Go.Proofs.Ytlkgmedkphcjpaa
open Go.RowKit Agio

/-- A deed. -/
structure Dd where
  k : Int
  to : Int
  i : Int
  p : Int
  v : UInt8
  A : Option Addr
  n : Nat
  c : Nat
  b : List UInt8
def Dd.cells (d : Dd) : List Value := [.int .i64 d.k, .int .i64 d.to, .int .i64 d.i, .int .i64 d.p, .int .u8 (d.v.toNat : Int), .slice d.A d.n d.c]
theorem Dd.cells_len (d : Dd) : d.cells.length = 6 := rfl

set_option maxRecDepth 100000 in
set_option maxHeartbeats 8000000 in
theorem netPlays_any (w : World) (A : Option Addr) (n c : Nat) (l : List Dd) (hl : RdS Dd.cells 6 w A n l) (he : ∀ d ∈ l, RdB w d.A d.n d.b) (hb : ∀ d ∈ l, d.b.length ≤ 140737488355328) :
    Calls Try.prog 3 #[.slice A n c] w fun e w' => e = .returned (.bool true) ∧ Upd [] [] w w' := by
  obtain rfl := hl.len
  go_enter Try.func3, Try.ntmps3
  repeat' ((fail_if_success (with_reducible refine stop_append rfl ?_)); (fail_if_success (with_reducible refine stop_copy rfl ?_)); first | go_values | go_skip | go_guarded | go_step | go_upon | (simp only []; go_at_K))
  ((with_reducible refine (awake13 _).mono ?_); rintro e w1 ⟨rfl, hu1⟩)
  repeat' ((fail_if_success (with_reducible refine stop_append rfl ?_)); (fail_if_success (with_reducible refine stop_copy rfl ?_)); first | go_values | go_skip | go_guarded | go_step | go_upon | (simp only []; go_at_K))
  ((with_reducible refine (netNew _).mono ?_); rintro e w2 ⟨g, rfl, h2, hu2⟩)
  repeat' ((fail_if_success (with_reducible refine stop_append rfl ?_)); (fail_if_success (with_reducible refine stop_copy rfl ?_)); first | go_values | go_skip | go_guarded | go_step | go_upon | (simp only []; go_at_K))
  have H2 : Play w w2 g none 0 0 [] none 0 0 [] := Play.start h2 (hu1.trans hu2)
  clear h2 hu2 hu1
  go_loopw [5, 6] (fun v5 v6 wr => ∃ (i : Nat) (An : Option Addr) (nn cn : Nat) (P : List Pk) (A1 : Option Addr) (n1 c1 : Nat) (L : List Pk), i ≤ l.length ∧ i ≤ 100 ∧ v6 = .int .i64 (i : Int) ∧ v5 = .slice A1 n1 c1 ∧ Play w wr g An nn cn P A1 n1 c1 L ∧ prs P = prs L ∧ P.length ≤ i)
    (fun _ v6 _ => 100 - (intOf v6).toNat)
  case atStart => exact ⟨0, none, 0, 0, [], none, 0, 0, [], by omega, by omega, rfl, rfl, H2, rfl, by simp⟩
  case round =>
    clear H2
    obtain ⟨i, An, nn, cn, P, A1, n1, c1, L, hi, hi100, rfl, rfl, H, hs, hPi⟩ := hrel
    have hLP : L.length = P.length := by have := congrArg List.length hs; rw [prs_len, prs_len] at this; omega
    by_cases hlt : i < l.length
    · by_cases h100 : i < 100
      · have hil : (i : Int) < (l.length : Int) := by omega
        have hi1 : (i : Int) < 100 := by omega
        have hw1 : IntKind.i64.wrap ((i : Int) + 1) = (i : Int) + 1 := by rw [IntKind.wrap_i64]; omega
        obtain ⟨ad, rfl, p0', p1'⟩ := RdS.at_ Dd.cells_len (hl.upd H.upd (by simp)) hlt
        have p0 := p0' _ rfl
        have p1 := p1' 1 _ (by omega) rfl
        have p2 := p1' 2 _ (by omega) rfl
        have p3 := p1' 3 _ (by omega) rfl
        have p4 := p1' 4 _ (by omega) rfl
        have p5 := p1' 5 _ (by omega) rfl
        have hm := List.getElem_mem hlt
        have hB0 := he _ hm
        have hb0 := hb _ hm
        clear p0' p1' hm
        generalize l[i] = d at *
        obtain ⟨k, to, at_, pl, v, B, m, dd, b⟩ := d
        simp only at p0 p1 p2 p3 p4 p5 hB0 hb0
        clear he hb hlt
        have hD := Blk.new wr 29 #[.int .i64 k, .int .i64 to, .int .i64 at_, .int .i64 pl, .int .u8 (v.toNat : Int), .slice B m dd]
        have UD : Upd [] [] wr (wr.alloc (.cells #[.int .i64 k, .int .i64 to, .int .i64 at_, .int .i64 pl, .int .u8 (v.toNat : Int), .slice B m dd] 29)) := (Upd.refl _ _).alloc _
        have hgD : wr.heap.size ∉ fpN g An P := fun hm => by have := H.net.lt _ hm; omega
        have H1 := H.made UD
        obtain ⟨W, hW⟩ : ∃ W, wr.alloc (.cells #[.int .i64 k, .int .i64 to, .int .i64 at_, .int .i64 pl, .int .u8 (v.toNat : Int), .slice B m dd] 29) = W := ⟨_, rfl⟩
        rw [hW] at hD H1
        have w0 := hD.cell 0
        have w1 := hD.cell 1
        have w2 := hD.cell 2
        have w3 := hD.cell 3
        have w4 := hD.cell 4
        have w5 := hD.cell 5
        simp only [List.getElem?_toArray, List.getElem?_cons_succ, List.getElem?_cons_zero] at w0 w1 w2 w3 w4 w5
        clear UD H
        repeat' ((fail_if_success (with_reducible refine stop_append rfl ?_)); (fail_if_success (with_reducible refine stop_copy rfl ?_)); first | go_values | go_skip | go_guarded | go_step | go_upon | (simp only []; go_at_K))
        all_goals
          clear hW p0 p1 p2 p3 p4 p5 w0 w1 w2 w3 w4 w5
          generalize wr.heap.size = G at *
        -- Send
        · have C := netSend_m H1 (by omega) to B m dd b hB0 hb0
          rw [hs] at C
          have hr := sendM_len (prs L) to b
          rw [prs_len, hLP] at hr
          ((with_reducible refine C.mono ?_); rintro e w3 ⟨An', nn', cn', P', b3, rfl, H3, hP', U3⟩)
          have hD3 := hD.upd U3 hgD
          have d1 := hD3.cell 1
          have d5 := hD3.cell 5
          simp only [List.getElem?_toArray, List.getElem?_cons_succ, List.getElem?_cons_zero] at d1 d5
          have C2 := refSend_m H3 (by omega) to B m dd b hB0 hb0
          clear C hD hD3 H1 U3 hgD hl
          repeat' ((fail_if_success (with_reducible refine stop_append rfl ?_)); (fail_if_success (with_reducible refine stop_copy rfl ?_)); first | go_values | go_skip | go_guarded | go_step | go_upon | (simp only []; go_at_K))
          ((with_reducible refine C2.mono ?_); rintro e w4 ⟨A', n', c', L', rfl, H4, hL'⟩)
          have hPL : prs P' = prs L' := hP'.trans hL'.symm
          have hlen : n' = P'.length := by have := congrArg List.length hPL; rw [prs_len, prs_len] at this; rw [H4.ref.len]; omega
          subst hlen
          have hPl : P'.length ≤ i + 1 := by have := congrArg List.length hP'; rw [prs_len] at this; omega
          have C3 := netLen w4 g An' nn' cn' P' H4.net
          clear C2 d1 d5 hP' hL' hr hs
          generalize sendM (prs L) to b = r at *
          repeat' ((fail_if_success (with_reducible refine stop_append rfl ?_)); (fail_if_success (with_reducible refine stop_copy rfl ?_)); first | go_values | go_skip | go_guarded | go_step | go_upon | (simp only []; go_at_K))
          ((with_reducible refine C3.mono ?_); rintro e w5 ⟨rfl, rfl⟩)
          clear C3
          repeat' ((fail_if_success (with_reducible refine stop_append rfl ?_)); (fail_if_success (with_reducible refine stop_copy rfl ?_)); first | go_values | go_skip | go_guarded | go_step | go_upon | (simp only []; go_at_K))
          exact ⟨⟨i + 1, An', nn', cn', P', A', _, c', L', by omega, by omega, by simp, rfl, H4, hPL, hPl⟩, by simp [intOf]; omega⟩
        -- Take
        · have C := netTake_m H1 at_
          rw [hs] at C
          have hr := takeM_len (prs L) at_
          rw [prs_len, hLP] at hr
          ((with_reducible refine C.mono ?_); rintro e w3 ⟨An', nn', cn', P', B3, m3, c3, b3, rfl, hB3, H3, hP', U3⟩)
          have hD3 := hD.upd U3 hgD
          have d2 := hD3.cell 2
          simp only [List.getElem?_toArray, List.getElem?_cons_succ, List.getElem?_cons_zero] at d2
          have C2 := refTake_m H3 (by omega) at_
          clear C hD hD3 H1 U3 hgD hl hB0
          repeat' ((fail_if_success (with_reducible refine stop_append rfl ?_)); (fail_if_success (with_reducible refine stop_copy rfl ?_)); first | go_values | go_skip | go_guarded | go_step | go_upon | (simp only []; go_at_K))
          ((with_reducible refine C2.mono ?_); rintro e w4 ⟨A', n', c', L', B4, m4, c4, b4, rfl, hB4, H4, hL', U4⟩)
          have hPL : prs P' = prs L' := hP'.trans hL'.symm
          have hlen : n' = P'.length := by have := congrArg List.length hPL; rw [prs_len, prs_len] at this; rw [H4.ref.len]; omega
          subst hlen
          have hPl : P'.length ≤ i + 1 := by have := congrArg List.length hP'; rw [prs_len] at this; omega
          clear C2 d2 hP' hL' hr hs
          generalize takeM (prs L) at_ = r at *
          have hB34 : RdB w4 B3 m3 r.1.2.1 := Rd.updx hB3 U4 (fun _ => by simp)
          have s1 := strOf (hB34.alloc (.cells #[.int .i64 r.1.1, .slice B4 m4 c4] 37)) c3
          have s2 := strOf (hB4.alloc (.cells #[.int .i64 r.1.1, .slice B4 m4 c4] 37)) c4
          have U5 : Upd [] [] w4 (w4.alloc (.cells #[.int .i64 r.1.1, .slice B4 m4 c4] 37)) := (Upd.refl _ _).alloc _
          have H5 := H4.made U5
          have hD5 := Blk.new w4 37 #[.int .i64 r.1.1, .slice B4 m4 c4]
          obtain ⟨⟨q0, q1⟩, -⟩ := hD5.c2
          have C3 := netLen _ g An' nn' cn' P' H5.net
          clear hB3 hB4 hB34 H3 H4 U4 U5 hD5
          repeat' ((fail_if_success (with_reducible refine stop_append rfl ?_)); (fail_if_success (with_reducible refine stop_copy rfl ?_)); first | go_values | go_skip | go_guarded | go_step | go_upon | (simp only []; go_at_K))
          ((with_reducible refine C3.mono ?_); rintro e w5 ⟨rfl, rfl⟩)
          clear C3
          repeat' ((fail_if_success (with_reducible refine stop_append rfl ?_)); (fail_if_success (with_reducible refine stop_copy rfl ?_)); first | go_values | go_skip | go_guarded | go_step | go_upon | (simp only []; go_at_K))
          exact ⟨⟨i + 1, An', nn', cn', P', A', _, c', L', by omega, by omega, by simp, rfl, H5, hPL, hPl⟩, by simp [intOf]; omega⟩
        -- Double
        · have C := netDouble_m H1 hs (by omega) at_
          rw [hs] at C
          have hr := doubleM_len (prs L) at_
          rw [prs_len, hLP] at hr
          ((with_reducible refine C.mono ?_); rintro e w3 ⟨An', nn', cn', P', b3, rfl, H3, hP', U3⟩)
          have hD3 := hD.upd U3 hgD
          have d2 := hD3.cell 2
          simp only [List.getElem?_toArray, List.getElem?_cons_succ, List.getElem?_cons_zero] at d2
          have C2 := refDouble_m H3 (by omega) at_
          clear C hD hD3 H1 U3 hgD hl hB0
          repeat' ((fail_if_success (with_reducible refine stop_append rfl ?_)); (fail_if_success (with_reducible refine stop_copy rfl ?_)); first | go_values | go_skip | go_guarded | go_step | go_upon | (simp only []; go_at_K))
          ((with_reducible refine C2.mono ?_); rintro e w4 ⟨A', n', c', L', rfl, H4, hL'⟩)
          have hPL : prs P' = prs L' := hP'.trans hL'.symm
          have hlen : n' = P'.length := by have := congrArg List.length hPL; rw [prs_len, prs_len] at this; rw [H4.ref.len]; omega
          subst hlen
          have hPl : P'.length ≤ i + 1 := by have := congrArg List.length hP'; rw [prs_len] at this; omega
          have C3 := netLen w4 g An' nn' cn' P' H4.net
          clear C2 d2 hP' hL' hr hs
          generalize doubleM (prs L) at_ = r at *
          repeat' ((fail_if_success (with_reducible refine stop_append rfl ?_)); (fail_if_success (with_reducible refine stop_copy rfl ?_)); first | go_values | go_skip | go_guarded | go_step | go_upon | (simp only []; go_at_K))
          ((with_reducible refine C3.mono ?_); rintro e w5 ⟨rfl, rfl⟩)
          clear C3
          repeat' ((fail_if_success (with_reducible refine stop_append rfl ?_)); (fail_if_success (with_reducible refine stop_copy rfl ?_)); first | go_values | go_skip | go_guarded | go_step | go_upon | (simp only []; go_at_K))
          exact ⟨⟨i + 1, An', nn', cn', P', A', _, c', L', by omega, by omega, by simp, rfl, H4, hPL, hPl⟩, by simp [intOf]; omega⟩
        -- Spoil
        · have C := netSpoil_m H1 at_ pl v
          rw [hs] at C
          have hr := spoilM_len (prs L) at_ pl v
          rw [prs_len, hLP] at hr
          ((with_reducible refine C.mono ?_); rintro e w3 ⟨An', nn', cn', P', b3, rfl, H3, hP', U3⟩)
          have hD3 := hD.upd U3 hgD
          have d2 := hD3.cell 2
          have d3 := hD3.cell 3
          have d4 := hD3.cell 4
          simp only [List.getElem?_toArray, List.getElem?_cons_succ, List.getElem?_cons_zero] at d2 d3 d4
          have C2 := refSpoil_m H3 (by omega) at_ pl v
          clear C hD hD3 H1 U3 hgD hl hB0
          repeat' ((fail_if_success (with_reducible refine stop_append rfl ?_)); (fail_if_success (with_reducible refine stop_copy rfl ?_)); first | go_values | go_skip | go_guarded | go_step | go_upon | (simp only []; go_at_K))
          ((with_reducible refine C2.mono ?_); rintro e w4 ⟨A', n', c', L', rfl, H4, hL'⟩)
          have hPL : prs P' = prs L' := hP'.trans hL'.symm
          have hlen : n' = P'.length := by have := congrArg List.length hPL; rw [prs_len, prs_len] at this; rw [H4.ref.len]; omega
          subst hlen
          have hPl : P'.length ≤ i + 1 := by have := congrArg List.length hP'; rw [prs_len] at this; omega
          have C3 := netLen w4 g An' nn' cn' P' H4.net
          clear C2 d2 d3 d4 hP' hL' hr hs
          generalize spoilM (prs L) at_ pl v = r at *
          repeat' ((fail_if_success (with_reducible refine stop_append rfl ?_)); (fail_if_success (with_reducible refine stop_copy rfl ?_)); first | go_values | go_skip | go_guarded | go_step | go_upon | (simp only []; go_at_K))
          ((with_reducible refine C3.mono ?_); rintro e w5 ⟨rfl, rfl⟩)
          clear C3
          repeat' ((fail_if_success (with_reducible refine stop_append rfl ?_)); (fail_if_success (with_reducible refine stop_copy rfl ?_)); first | go_values | go_skip | go_guarded | go_step | go_upon | (simp only []; go_at_K))
          exact ⟨⟨i + 1, An', nn', cn', P', A', _, c', L', by omega, by omega, by simp, rfl, H4, hPL, hPl⟩, by simp [intOf]; omega⟩
        -- First
        · have d1 := hD.drew.cell 1
          simp only [List.getElem?_toArray, List.getElem?_cons_succ, List.getElem?_cons_zero] at d1
          have U0 : Upd [] [] W W.drew := (Upd.refl [] W).drew
          have Hd := H1.made U0
          have hfi : firstI (P.map Pk.to) to 0 = firstI (L.map Pk.to) to 0 := by rw [prs_tos, hs, ← prs_tos]
          have C1 := fun (w' : World) (h : NetS w' g An nn cn P) => netFirst w' g An nn cn P h to
          simp only [hfi] at C1
          have C2 := fun (w' : World) (h : RdS Pk.cells 2 w' A1 n1 L) => refFirst w' A1 n1 c1 L h (by omega) to
          have hlen : n1 = P.length := by rw [H1.ref.len]; omega
          subst hlen
          generalize firstI (L.map Pk.to) to 0 = R at *
          clear hfi H1 hD hgD hl hB0
          go_region_held3 (fun w' => w'.cell? ⟨G, 1, none⟩ = some (.int .i64 to) ∧ Upd [] [] W w') (first | exact ⟨d1, U0⟩ | exact ⟨d15, U5⟩)
            (first
              | (go_at_call 22; (with_reducible refine (C1 _ Hd.net).mono ?_); rintro e w5 ⟨rfl, hu5⟩; have d15 := hu5.cell d1 (by simp); have H5 := Hd.made hu5; have U5 := U0.trans hu5)
              | (go_at_call 23; (first | (with_reducible refine (C2 _ Hd.ref).mono ?_) | (with_reducible refine (C2 _ H5.ref).mono ?_)); rintro e w6 ⟨rfl, rfl⟩))
          all_goals
            have C3 := netLen w5 g An nn cn P H5.net
            clear C1 C2 d1 d15 U0 Hd U5
          all_goals (repeat' ((fail_if_success (with_reducible refine stop_append rfl ?_)); (fail_if_success (with_reducible refine stop_copy rfl ?_)); first | go_values | go_skip | go_guarded | go_step | go_upon | (simp only []; go_at_K)))
          all_goals ((with_reducible refine C3.mono ?_); rintro e w5 ⟨rfl, rfl⟩)
          all_goals clear C3
          all_goals (repeat' ((fail_if_success (with_reducible refine stop_append rfl ?_)); (fail_if_success (with_reducible refine stop_copy rfl ?_)); first | go_values | go_skip | go_guarded | go_step | go_upon | (simp only []; go_at_K)))
          all_goals exact ⟨⟨i + 1, An, nn, cn, P, A1, _, c1, L, by omega, by omega, by simp, rfl, H5, hs, by omega⟩, by simp [intOf]; omega⟩
      · have hn100 : ¬ ((i : Int) < 100) := by omega
        have hil : (i : Int) < (l.length : Int) := by omega
        have U := H.upd.gives (b' := []) (by simp)
        clear H he hb hl
        repeat' ((fail_if_success (with_reducible refine stop_append rfl ?_)); (fail_if_success (with_reducible refine stop_copy rfl ?_)); first | go_values | go_skip | go_guarded | go_step | go_upon | (simp only []; go_at_K))
        go_ret
        exact ⟨rfl, U⟩
    · have hil : ¬ ((i : Int) < (l.length : Int)) := by omega
      have U := H.upd.gives (b' := []) (by simp)
      clear H he hb hl
      repeat' ((fail_if_success (with_reducible refine stop_append rfl ?_)); (fail_if_success (with_reducible refine stop_copy rfl ?_)); first | go_values | go_skip | go_guarded | go_step | go_upon | (simp only []; go_at_K))
      go_ret
      exact ⟨rfl, U⟩
end Go.Proofs.Ytlkgmedkphcjpaa
