/- agiolaw13.NetOnce. -/
import Derived.Test.YtdmkhmejpgjioaaNetU
namespace Go.Proofs.Ytdmkhmejpgjioaa
open Go.RowKit Agio

set_option maxRecDepth 100000 in
/-- No packets, no first one. -/
theorem netFirst0 (w : World) (g : Nat) (A : Option Addr) (n c : Nat) (h : NetS w g A n c []) (to : Int) :
    Calls Try.prog 38 #[.pointer (some ⟨g, 0, none⟩), .int .i64 to] w fun e w' => e = .returned (.int .i64 (-1)) ∧ w = w' := by
  have hn : n = 0 := h.len
  subst hn
  have q := h.blk.cell 0
  simp only [List.getElem?_toArray, List.getElem?_cons_zero] at q
  go_enter Try.func38, Try.ntmps38
  repeat' ((fail_if_success (with_reducible refine stop_append rfl ?_)); (fail_if_success (with_reducible refine stop_copy rfl ?_)); first | go_values | go_skip | go_guarded | go_step | go_upon | (simp only []; go_at_K))
  go_loopw [14] (fun v14 wr => v14 = .int .i64 0 ∧ wr = w) (fun _ _ => 0)
  case atStart => exact ⟨rfl, rfl⟩
  case round =>
    obtain ⟨rfl, rfl⟩ := hrel
    repeat' ((fail_if_success (with_reducible refine stop_append rfl ?_)); (fail_if_success (with_reducible refine stop_copy rfl ?_)); first | go_values | go_skip | go_guarded | go_step | go_upon | (simp only []; go_at_K))
    go_ret
    exact ⟨rfl, rfl⟩

theorem _root_.Agio.Upd.padR {a b : List Nat} {w w' : World} (h : Upd a b w w') (c : List Nat) : Upd (a ++ c) (b ++ c) w w' :=
  h.mono (fun k hk => List.mem_append_left _ hk) (fun k hk => by
    rcases List.mem_append.1 hk with h1 | h1
    · exact .inl h1
    · exact .inr (.inl (List.mem_append_right _ h1)))
theorem _root_.Agio.Upd.padL {a b : List Nat} {w w' : World} (h : Upd a b w w') (c : List Nat) : Upd (c ++ a) (c ++ b) w w' :=
  h.mono (fun k hk => List.mem_append_right _ hk) (fun k hk => by
    rcases List.mem_append.1 hk with h1 | h1
    · exact .inr (.inl (List.mem_append_left _ h1))
    · exact .inl h1)
theorem NetS.apart {w : World} {g : Nat} {A : Option Addr} {n c : Nat} {l : List Pk} (h : NetS w g A n c l) {e : TypeId} {size : Nat} {A' : Option Addr} {n' c' : Nat} {xs : List Value} (ho : Own e size w A' n' c' xs)
    (h1 : e ≠ 172) (h2 : e ≠ 176) (h3 : e ≠ 5) : ∀ k ∈ ablk A', k ∉ fpN g A l := by
  intro k hk hm
  simp only [fpN, List.mem_cons, List.mem_append, List.mem_flatMap] at hm
  rcases hm with rfl | hm | ⟨x, hx, hm⟩
  · exact ho.ne h.blk h1 hk
  · exact h.row.apart ho h2 k hk hm
  · exact ho.disj (h.each x hx).own h3 k hk hm

/-- What NetOnce carries: a net, and the slices that are under way. -/
structure Onc (w0 w : World) (g : Nat) (A1 : Option Addr) (k1 c1 : Nat) (An : Option Addr) (nn cn : Nat) (P : List Pk) (L : List Sl) : Prop where
  left : Own 25 1 w A1 k1 c1 (L.map Sl.val)
  net : NetS w g An nn cn P
  same : P.map Pk.b = L.map Sl.b
  upd : Upd [] (fpN g An P ++ ablk A1) w0 w
theorem Onc.len {w0 w : World} {g : Nat} {A1 An : Option Addr} {k1 c1 nn cn : Nat} {P : List Pk} {L : List Sl} (h : Onc w0 w g A1 k1 c1 An nn cn P L) : P.length = L.length ∧ k1 = L.length := by
  refine ⟨by have := congrArg List.length h.same; simpa using this, ?_⟩
  have := h.left.len
  simp at this
  omega
theorem Onc.b_at {w0 w : World} {g : Nat} {A1 An : Option Addr} {k1 c1 nn cn : Nat} {P : List Pk} {L : List Sl} (h : Onc w0 w g A1 k1 c1 An nn cn P L) {k : Nat} (hk : k < P.length) (hk' : k < L.length) : P[k].b = L[k].b := by
  have := congrArg (fun z => z[k]?) h.same
  simpa [hk, hk'] using this
/-- The net turns. -/
theorem Onc.turn {w0 w w' : World} {g : Nat} {A1 An A' : Option Addr} {k1 c1 nn cn n' c' : Nat} {P P' : List Pk} {L : List Sl} (h : Onc w0 w g A1 k1 c1 An nn cn P L) (hn : NetS w' g A' n' c' P') (hu : Upd (fpN g An P) (fpN g A' P') w w') :
    Own 25 1 w' A1 k1 c1 (L.map Sl.val) ∧ Upd [] (fpN g A' P' ++ ablk A1) w0 w' :=
  ⟨h.left.upd hu (h.net.apart h.left (by decide) (by decide) (by decide)), h.upd.trans (hu.padR _)⟩
/-- The list of slices turns. -/
theorem Onc.list {w0 w w' : World} {g : Nat} {A1 A2 An : Option Addr} {k1 c1 k2 c2 nn cn : Nat} {P : List Pk} {L L' : List Sl} (hl : Own 25 1 w A1 k1 c1 (L.map Sl.val)) (hn : NetS w g An nn cn P) (hu0 : Upd [] (fpN g An P ++ ablk A1) w0 w)
    (hl' : Own 25 1 w' A2 k2 c2 (L'.map Sl.val)) (hu : Upd (ablk A1) (ablk A2) w w') (hs : P.map Pk.b = L'.map Sl.b) : Onc w0 w' g A2 k2 c2 An nn cn P L' :=
  ⟨hl', hn.upd hu (fun k hk hm => hn.apart hl (by decide) (by decide) (by decide) k hm hk), hs, hu0.trans (hu.padL _)⟩

theorem Onc.anew {w0 w w' : World} {g : Nat} {A7 An : Option Addr} {k7 c7 nn cn : Nat} {P : List Pk} {L : List Sl} {b : List Nat} (hn : NetS w g An nn cn P) (hu0 : Upd [] (fpN g An P ++ b) w0 w)
    (hl' : Own 25 1 w' A7 k7 c7 (L.map Sl.val)) (hu : Upd [] (ablk A7) w w') (hs : P.map Pk.b = L.map Sl.b) : Onc w0 w' g A7 k7 c7 An nn cn P L :=
  ⟨hl', hn.upd0 hu, hs, (hu0.gives (b' := fpN g An P ++ []) (fun k hk => hu0.fresh k (by rw [List.append_nil] at hk; exact List.mem_append_left _ hk))).trans (hu.padL _)⟩
theorem map_erase {α β : Type} (f : α → β) (l : List α) (i : Nat) : (l.eraseIdx i).map f = (l.map f).eraseIdx i := by
  rw [List.eraseIdx_eq_take_drop_succ, List.eraseIdx_eq_take_drop_succ, List.map_append, List.map_take, List.map_drop]
theorem Own.sls {w : World} {A1 : Option Addr} {k1 c1 : Nat} {L : List Sl} (h : Own 25 1 w A1 k1 c1 (L.map Sl.val)) : RdS (fun x : Sl => [x.val]) 1 w A1 k1 L := by
  refine ⟨by have := h.len; simp at this; omega, ?_⟩
  have : ∀ L : List Sl, L.flatMap (fun x : Sl => [x.val]) = L.map Sl.val := by
    intro L
    induction L with
    | nil => rfl
    | cons z L ih => rw [List.flatMap_cons, List.map_cons, ih]; rfl
  rw [this]
  exact h.rd
theorem cell_of_u16 {w : World} {A : Option Addr} {n : Nat} {os : List Nat} (hl : RdS (fun m : Nat => [Value.int .u16 (m : Int)]) 1 w A n os) {i : Nat} (hi : i < os.length) :
    ∃ ad, A = some ad ∧ w.cell? (ad.add i) = some (.int .u16 (os[i] : Int)) := by
  obtain ⟨ad, e, q, -⟩ := RdS.at_ (s := 1) (fun _ => rfl) hl hi
  have := q _ rfl
  rw [Nat.mul_one] at this
  exact ⟨ad, e, this⟩
theorem sls_at {w : World} {A : Option Addr} {n : Nat} {l : List Sl} (hl : RdS (fun x : Sl => [x.val]) 1 w A n l) {i : Nat} (hi : i < l.length) :
    ∃ ad, A = some ad ∧ ∀ b w', Upd [] b w w' → w'.cell? (ad.add i) = some (.slice l[i].A l[i].k l[i].c) := by
  obtain ⟨ad, e, -⟩ := RdS.at_ (s := 1) (fun _ => rfl) hl hi
  refine ⟨ad, e, fun b w' hu => ?_⟩
  obtain ⟨ad', e', q, -⟩ := RdS.at_ (s := 1) (fun _ => rfl) (hl.upd0 hu) hi
  rw [e] at e'
  injection e' with e'
  subst e'
  have := q _ rfl
  rw [Nat.mul_one] at this
  exact this

set_option maxRecDepth 100000 in
set_option maxHeartbeats 8000000 in
theorem netOnce_any (w : World) (A : Option Addr) (n c : Nat) (l : List Sl) (hl : RdS (fun x : Sl => [x.val]) 1 w A n l) (he : ∀ x ∈ l, RdB w x.A x.k x.b) (hb : ∀ x ∈ l, x.b.length ≤ 140737488355328)
    (A2 : Option Addr) (n2 c2 : Nat) (os : List Nat) (hos : RdS (fun m : Nat => [Value.int .u16 (m : Int)]) 1 w A2 n2 os) (hob : ∀ m ∈ os, m < 65536) (t : UInt8) :
    Calls Try.prog 8 #[.slice A n c, .slice A2 n2 c2, .int .u8 (t.toNat : Int)] w fun e w' => e = .returned (.bool true) ∧ Upd [] [] w w' := by
  obtain rfl := hl.len
  obtain rfl := hos.len
  go_enter Try.func8, Try.ntmps8
  repeat' ((fail_if_success (with_reducible refine stop_append rfl ?_)); (fail_if_success (with_reducible refine stop_copy rfl ?_)); first | go_values | go_skip | go_guarded | go_step | go_upon | (simp only []; go_at_K))
  ((with_reducible refine (awake13 _).mono ?_); rintro e w1 ⟨rfl, hu1⟩)
  repeat' ((fail_if_success (with_reducible refine stop_append rfl ?_)); (fail_if_success (with_reducible refine stop_copy rfl ?_)); first | go_values | go_skip | go_guarded | go_step | go_upon | (simp only []; go_at_K))
  ((with_reducible refine (netNew _).mono ?_); rintro e w2 ⟨g, rfl, h2, hu2⟩)
  repeat' ((fail_if_success (with_reducible refine stop_append rfl ?_)); (fail_if_success (with_reducible refine stop_copy rfl ?_)); first | go_values | go_skip | go_guarded | go_step | go_upon | (simp only []; go_at_K))
  have H2 : Onc w w2 g none 0 0 none 0 0 [] [] := ⟨Own.nil _ _ _, h2, rfl, by simpa [ablk] using hu1.trans hu2⟩
  clear h2 hu2 hu1
  go_loopw [9, 10, 11] (fun v9 v10 v11 wr => ∃ (i : Nat) (A1 : Option Addr) (k1 c1 : Nat) (An : Option Addr) (nn cn : Nat) (P : List Pk), i ≤ l.length ∧ i ≤ 40 ∧ v9 = .int .i64 (i : Int) ∧ v11 = .int .i64 (i : Int) ∧ v10 = .slice A1 k1 c1 ∧ Onc w wr g A1 k1 c1 An nn cn P (l.take i))
    (fun _ _ v11 _ => 40 - (intOf v11).toNat)
  case atStart => exact ⟨0, none, 0, 0, none, 0, 0, [], by omega, by omega, rfl, rfl, rfl, H2⟩
  case round =>
    clear H2
    obtain ⟨i, A1, k1, c1, An, nn, cn, P, hi, hi40, rfl, rfl, rfl, H⟩ := hrel
    obtain ⟨hPl, hk1⟩ := H.len
    rw [List.length_take_of_le hi] at hPl hk1
    by_cases hlt : i < l.length
    · by_cases h40 : i < 40
      · obtain ⟨ad, hA, Q⟩ := sls_at hl hlt
        subst hA
        have hxm := List.getElem_mem hlt
        have hxr := (he _ hxm).upd H.upd (by simp)
        have hxb := hb _ hxm
        have HT := Lib.hid (List.take_succ_eq_append_getElem hlt)
        generalize l[i] = x at *
        have q := Q _ _ H.upd
        have hs7 : siteB ((i : Int) % 7) = true := by unfold siteB; simp; omega
        have C := netSend wr g An nn cn P H.net ((i : Int) % 7) x.A x.k x.c x.b hxr hxb hs7 (by omega)
        repeat' ((fail_if_success (with_reducible refine stop_append rfl ?_)); (fail_if_success (with_reducible refine stop_copy rfl ?_)); first | go_values | go_skip | go_guarded | go_step | go_upon | (simp only []; go_at_K))
        ((with_reducible refine C.mono ?_); rintro e w3 ⟨A', n', c', y, rfl, -, hyb, h3, hu3⟩)
        obtain ⟨hleft, U3⟩ := H.turn h3 hu3
        have q3 := Q _ _ U3
        have hS := H.same
        clear C q H hu3 hxr hxb hs7
        repeat' ((fail_if_success (with_reducible refine stop_append rfl ?_)); (fail_if_success (with_reducible refine stop_copy rfl ?_)); first | go_values | go_skip | go_guarded | go_step | go_upon | (simp only []; go_at_K))
        refine wpList_push rfl _ _ 62 rfl 25 Try.underlying62 infoSl rfl (by decide) hleft rfl _ rfl (news := [.slice x.A x.k x.c]) rfl rfl rfl (by unfold maxLen; omega) (by omega) ?_
        intro A4 c4 w4 ho4 hu4
        have H' : Onc w w4 g A4 (k1 + 1) c4 A' n' c' (P ++ [y]) (l.take (i + 1)) := Onc.list hleft h3 U3 (by rw [HT.out, List.map_append]; exact ho4) hu4 (by rw [HT.out]; simp [hS, hyb])
        rw [hk1] at H'
        clear hleft h3 U3 q3 ho4 hu4
        repeat' ((fail_if_success (with_reducible refine stop_append rfl ?_)); (fail_if_success (with_reducible refine stop_copy rfl ?_)); first | go_values | go_skip | go_guarded | go_step | go_upon | (simp only []; go_at_K))
        exact ⟨⟨i + 1, A4, _, c4, A', n', c', P ++ [y], by omega, by omega, by simp, by simp, rfl, H'⟩, by simp [intOf]; omega⟩
      · have hn40 : ¬ ((i : Int) < 40) := by omega
        have hnl : (i : Int) < (l.length : Int) := by omega
        have hi0 : ((i : Int) == 0) = false := by simp; omega
        have hw : wrap64 (t.toNat : Int) = (t.toNat : Int) := by have := t.toNat_lt; unfold wrap64; omega
        obtain ⟨k, hkk⟩ : ∃ k, t.toNat % i = k := ⟨_, rfl⟩
        have hk : k < i := by rw [← hkk]; exact Nat.mod_lt _ (by omega)
        have hr1 : (t.toNat : Int).tmod (i : Int) = (k : Int) := by rw [← hkk]; rfl
        have hr2 : (t.toNat : Int) % (i : Int) = (k : Int) := by rw [← hkk]; rfl
        clear hkk
        generalize (t.toNat : Int) = tn at *
        have hkl : k < l.length := by omega
        have hkP : k < P.length := by omega
        have C := netDouble wr g An nn cn P H.net k hkP (by omega) (by rw [H.b_at hkP (by rw [List.length_take_of_le hi]; exact hk), List.getElem_take]; exact hb _ (List.getElem_mem hkl))
        have hPb : P[k].b = l[k].b := by rw [H.b_at hkP (by rw [List.length_take_of_le hi]; exact hk), List.getElem_take]
        obtain ⟨ad, hA, Q⟩ := sls_at hl hkl
        subst hA
        have hxm := List.getElem_mem hkl
        generalize l[k] = x at *
        generalize P[k].b = pb at *
        generalize P[k].to = pt at *
        subst hPb
        have hkn : (k : Int) < (l.length : Int) := by omega
        have HK := Lib.hid hk1
        have HP := Lib.hid hPl
        clear hkP hkl hb hk hPl hk1 hlt
        repeat' ((fail_if_success (with_reducible refine stop_append rfl ?_)); (fail_if_success (with_reducible refine stop_copy rfl ?_)); first | go_values | go_skip | go_guarded | go_step | go_upon | (simp only []; go_at_K))
        ((with_reducible refine C.mono ?_); rintro e w3 ⟨A', n', c', y, rfl, -, hyb, h3, hu3⟩)
        obtain ⟨hleft, U3⟩ := H.turn h3 hu3
        have q3 := Q _ _ U3
        have hS := H.same
        clear C H hu3 hr1 hr2 hw
        repeat' ((fail_if_success (with_reducible refine stop_append rfl ?_)); (fail_if_success (with_reducible refine stop_copy rfl ?_)); first | go_values | go_skip | go_guarded | go_step | go_upon | (simp only []; go_at_K))
        refine wpList_push rfl _ _ 62 rfl 25 Try.underlying62 infoSl rfl (by decide) hleft rfl _ rfl (news := [.slice x.A x.k x.c]) rfl rfl rfl (by unfold maxLen; have := HK.out; omega) (by have := HK.out; omega) ?_
        intro A4 c4 w4 ho4 hu4
        have H' : Onc w w4 g A4 (k1 + 1) c4 A' n' c' (P ++ [y]) (l.take i ++ [x]) := Onc.list hleft h3 U3 (by rw [List.map_append]; exact ho4) hu4 (by simp [hS, hyb])
        have hLm : ∀ z ∈ l.take i ++ [x], z ∈ l := by
          intro z hz
          rcases List.mem_append.1 hz with hz | hz
          · exact List.mem_of_mem_take hz
          · rw [List.mem_singleton.1 hz]; exact hxm
        have hLl : (l.take i ++ [x]).length ≤ 41 := by rw [List.length_append, List.length_take_of_le hi]; simp; omega
        generalize l.take i ++ [x] = L0 at *
        clear hleft h3 U3 q3 ho4 hu4 hS hyb
        repeat' ((fail_if_success (with_reducible refine stop_append rfl ?_)); (fail_if_success (with_reducible refine stop_copy rfl ?_)); first | go_values | go_skip | go_guarded | go_step | go_upon | (simp only []; go_at_K))
        go_loopw [10, 13, 14, 15, 16, 17, 18] (fun v10 v13 _ _ _ _ _ wr => ∃ (j : Nat) (A1 : Option Addr) (k1 c1 : Nat) (An : Option Addr) (nn cn : Nat) (P : List Pk) (L : List Sl), v13 = .int .i64 (j : Int) ∧ v10 = .slice A1 k1 c1 ∧ Onc w wr g A1 k1 c1 An nn cn P L ∧ (∀ z ∈ L, z ∈ l) ∧ j + L.length ≤ 41)
          (fun _ v13 _ _ _ _ _ _ => 41 - (intOf v13).toNat)
        case atStart => exact ⟨0, A4, k1 + 1, c4, A', n', c', P ++ [y], L0, rfl, rfl, H', hLm, by omega⟩
        case round =>
          clear H' hLm hLl Q
          obtain ⟨j, A1, k1, c1, An, nn, cn, P, L, rfl, rfl, H, hLm, hjL⟩ := hrel
          obtain ⟨hPl, hk1⟩ := H.len
          by_cases hL0 : L.length = 0
          · obtain rfl : L = [] := List.eq_nil_of_length_eq_zero hL0
            obtain rfl : P = [] := List.eq_nil_of_length_eq_zero (by rw [hPl]; exact hL0)
            have hk0 : k1 = 0 := hk1
            subst hk0
            have C := netLen wr g An nn cn [] H.net
            have C2 := netFirst0 wr g An nn cn H.net 0
            rw [show (([] : List Pk).length : Int) = 0 from rfl] at C
            have U := H.upd.gives (b' := []) (by simp)
            clear H hLm hPl hk1 hL0
            repeat' ((fail_if_success (with_reducible refine stop_append rfl ?_)); (fail_if_success (with_reducible refine stop_copy rfl ?_)); first | go_values | go_skip | go_guarded | go_step | go_upon | (simp only []; go_at_K))
            ((with_reducible refine C.mono ?_); rintro e w5 ⟨rfl, rfl⟩)
            repeat' ((fail_if_success (with_reducible refine stop_append rfl ?_)); (fail_if_success (with_reducible refine stop_copy rfl ?_)); first | go_values | go_skip | go_guarded | go_step | go_upon | (simp only []; go_at_K))
            ((with_reducible refine C2.mono ?_); rintro e w5 ⟨rfl, rfl⟩)
            repeat' ((fail_if_success (with_reducible refine stop_append rfl ?_)); (fail_if_success (with_reducible refine stop_copy rfl ?_)); first | go_values | go_skip | go_guarded | go_step | go_upon | (simp only []; go_at_K))
            go_ret
            exact ⟨rfl, U⟩
          · have hkp : (0 : Int) < (k1 : Int) := by omega
            by_cases hj : j < os.length
            · have hjn : (j : Int) < (os.length : Int) := by omega
              obtain ⟨ad2, hA2, q2⟩ := cell_of_u16 (hos.upd0 H.upd) hj
              subst hA2
              have hm := hob _ (List.getElem_mem hj)
              generalize os[j] = m at *
              have hw : wrap64 (m : Int) = (m : Int) := by unfold wrap64; omega
              obtain ⟨a, haa⟩ : ∃ a, m % k1 = a := ⟨_, rfl⟩
              have ha : a < k1 := by rw [← haa]; exact Nat.mod_lt _ (by omega)
              have hr1 : (m : Int).tmod (k1 : Int) = (a : Int) := by rw [← haa]; rfl
              have hr2 : (m : Int) % (k1 : Int) = (a : Int) := by rw [← haa]; rfl
              clear haa
              generalize (m : Int) = mn at *
              have hak : (a : Int) < (k1 : Int) := by omega
              have haL : a < L.length := by omega
              have haP : a < P.length := by omega
              have C := netTake wr g An nn cn P H.net a haP P[a] rfl
              have hPb : P[a].b = L[a].b := H.b_at haP haL
              generalize hPx : P[a] = x at *
              have hS := H.same
              have HK := Lib.hid hk1
              clear hk1
              repeat' ((fail_if_success (with_reducible refine stop_append rfl ?_)); (fail_if_success (with_reducible refine stop_copy rfl ?_)); first | go_values | go_skip | go_guarded | go_step | go_upon | (simp only []; go_at_K))
              ((with_reducible refine C.mono ?_); rintro e w5 ⟨A5, n5, c5, rfl, h5, hox, -, hu5⟩)
              obtain ⟨hleft, U5⟩ := H.turn h5 hu5
              have hrd := Own.sls hleft
              obtain ⟨ad1, hA1, Q1⟩ := sls_at hrd haL
              subst hA1
              have hzm := hLm _ (List.getElem_mem haL)
              have hzr := (he _ hzm).upd U5 (by simp)
              have q5 := fun N => Q1 _ _ ((Upd.refl [] w5).drewN N)
              obtain ⟨xt, xA, xn, xc, xb⟩ := x
              simp only at hPb hox
              subst hPb
              have s1 := fun N => strOf (hox.rd.drewN N) xc
              have s2 := fun N => strOf (hzr.drewN N) L[a].c
              have hcap := hleft.cap.1
              clear C H hu5 hox hzr Q1 hzm
              generalize L[a].A = zA at *
              generalize L[a].k = zk at *
              generalize L[a].c = zc at *
              generalize L[a].b = zb at *
              repeat' ((fail_if_success (with_reducible refine stop_append rfl ?_)); (fail_if_success (with_reducible refine stop_copy rfl ?_)); first | go_values | go_skip | go_guarded | go_step | go_upon | (simp only []; go_at_K))
              go_quiet (fail)
              clear s1 s2
              repeat' ((fail_if_success (with_reducible refine stop_append rfl ?_)); (fail_if_success (with_reducible refine stop_copy rfl ?_)); first | go_values | go_skip | go_guarded | go_step | go_upon | (simp only []; go_at_K))
              try clear hr1 hr2 hw q2
              have hone : ∀ u ∈ L.map Sl.val, u.oneCell' = true := fun u hu => by obtain ⟨z, _, rfl⟩ := List.mem_map.1 hu; rfl
              have ha1 : (a : Int) + 1 ≤ (k1 : Int) := hak
              have ha0' : (0 : Int) ≤ (a : Int) + 1 := by omega
              have hkc : (k1 : Int) ≤ (c1 : Int) := by omega
              have hac : (a : Int) ≤ (c1 : Int) := by omega
              have hk41 : k1 ≤ 41 := by have := HK.out; omega
              have hr0 := ((Rd.take (k := a) hleft.rd (by omega)).drewN nq).alloc (.cells #[] 25)
              have U55 : Upd [] (ablk (some ⟨w5.heap.size, 0, none⟩)) w5 ((w5.drewN nq).alloc (.cells #[] 25)) := (((Upd.refl [] w5).drewN nq).alloc _).gives (by intro k hk; simp [ablk] at hk; subst hk; exact .inr (Nat.le_refl _))
              refine wpList_app _ rfl _ _ 62 rfl 25 Try.underlying62 infoSl rfl (by decide) (Own.made 25 1 (w5.drewN nq)) rfl hr0 rfl (fun u hu => hone u (List.mem_of_mem_take hu)) (by unfold maxLen; omega) (by omega) ?_
              intro A6 c6 w6 ho6 hu6
              have U6 := U55.trans hu6
              obtain ⟨A7, hA7⟩ : ∃ A7, (if c1 = a + 1 then some ad1 else some ⟨ad1.block, ad1.off + (a + 1), none⟩) = A7 := ⟨_, rfl⟩
              have hr7 := Rd.cut (hleft.rd.upd U6 (by simp)) (k := a + 1) (cap := c1) (by omega) hcap
              rw [show (if c1 = a + 1 then some ad1 else Option.map (fun y => y.add ((a + 1) * 1)) (some ad1)) = A7 by rw [← hA7, Option.map_some, Nat.mul_one]; unfold Addr.add; rw [if_neg (Nat.succ_ne_zero a)]] at hr7
              clear hr0 U55 hu6 hrd q5
              rw [Nat.zero_add] at ho6
              repeat' ((fail_if_success (with_reducible refine stop_append rfl ?_)); (fail_if_success (with_reducible refine stop_copy rfl ?_)); first | go_values | go_skip | go_guarded | go_step | go_upon | (simp only []; go_at_K))
              refine wpList_app _ rfl _ _ 62 rfl 25 Try.underlying62 infoSl rfl (by decide) ho6 rfl hr7 rfl (fun u hu => hone u (List.mem_of_mem_drop hu)) (by unfold maxLen; omega) (by omega) ?_
              intro A8 c8 w8 ho8 hu8
              have H'' : Onc w w8 g A8 (a + (k1 - (a + 1))) c8 A5 n5 c5 (P.eraseIdx a) (L.eraseIdx a) := Onc.anew h5 U5 (by rw [List.eraseIdx_eq_take_drop_succ, List.map_append, List.map_take, List.map_drop]; simpa using ho8) (U6.trans hu8) (by rw [map_erase, map_erase, hS])
              have hLm' : ∀ z ∈ L.eraseIdx a, z ∈ l := fun z hz => hLm z ((List.eraseIdx_sublist L a).subset hz)
              have hLl' : j + 1 + (L.eraseIdx a).length ≤ 41 := by rw [List.length_eraseIdx, if_pos haL]; omega
              clear ho6 hr7 hA7 hu8 ho8 U6 hleft hone hS h5 U5
              repeat' ((fail_if_success (with_reducible refine stop_append rfl ?_)); (fail_if_success (with_reducible refine stop_copy rfl ?_)); first | go_values | go_skip | go_guarded | go_step | go_upon | (simp only []; go_at_K))
              exact ⟨⟨j + 1, A8, _, c8, A5, n5, c5, _, _, by simp, rfl, H'', hLm', hLl'⟩, by simp [intOf]; omega⟩
            · have hjn : ¬ ((j : Int) < (os.length : Int)) := by omega
              have haL : 0 < L.length := by omega
              have haP : 0 < P.length := by omega
              have C := netTake wr g An nn cn P H.net 0 haP P[0] rfl
              rw [show ((0 : Nat) : Int) = 0 from rfl] at C
              have hPb : P[0].b = L[0].b := H.b_at haP haL
              generalize hPx : P[0] = x at *
              have hS := H.same
              have HK := Lib.hid hk1
              clear hk1
              repeat' ((fail_if_success (with_reducible refine stop_append rfl ?_)); (fail_if_success (with_reducible refine stop_copy rfl ?_)); first | go_values | go_skip | go_guarded | go_step | go_upon | (simp only []; go_at_K))
              ((with_reducible refine C.mono ?_); rintro e w5 ⟨A5, n5, c5, rfl, h5, hox, -, hu5⟩)
              obtain ⟨hleft, U5⟩ := H.turn h5 hu5
              have hrd := Own.sls hleft
              obtain ⟨ad1, hA1, Q1⟩ := sls_at hrd haL
              subst hA1
              have hzm := hLm _ (List.getElem_mem haL)
              have hzr := (he _ hzm).upd U5 (by simp)
              have q5 := fun N => Q1 _ _ ((Upd.refl [] w5).drewN N)
              simp only [Addr.add, if_true] at q5
              obtain ⟨xt, xA, xn, xc, xb⟩ := x
              simp only at hPb hox
              subst hPb
              have s1 := fun N => strOf (hox.rd.drewN N) xc
              have s2 := fun N => strOf (hzr.drewN N) L[0].c
              have hcap := hleft.cap.1
              clear C H hu5 hox hzr Q1 hzm
              generalize L[0].A = zA at *
              generalize L[0].k = zk at *
              generalize L[0].c = zc at *
              generalize L[0].b = zb at *
              repeat' ((fail_if_success (with_reducible refine stop_append rfl ?_)); (fail_if_success (with_reducible refine stop_copy rfl ?_)); first | go_values | go_skip | go_guarded | go_step | go_upon | (simp only []; go_at_K))
              go_quiet (fail)
              clear s1 s2
              repeat' ((fail_if_success (with_reducible refine stop_append rfl ?_)); (fail_if_success (with_reducible refine stop_copy rfl ?_)); first | go_values | go_skip | go_guarded | go_step | go_upon | (simp only []; go_at_K))
              have hone : ∀ u ∈ L.map Sl.val, u.oneCell' = true := fun u hu => by obtain ⟨z, _, rfl⟩ := List.mem_map.1 hu; rfl
              have ha1 : (1 : Int) ≤ (k1 : Int) := by omega
              have hkc : (k1 : Int) ≤ (c1 : Int) := by omega
              have hac : (1 : Int) ≤ (c1 : Int) := by omega
              have hk41 : k1 ≤ 41 := by have := HK.out; omega
              have hr0 := ((Rd.take (k := 0) hleft.rd (by omega)).drewN nq).alloc (.cells #[] 25)
              have U55 : Upd [] (ablk (some ⟨w5.heap.size, 0, none⟩)) w5 ((w5.drewN nq).alloc (.cells #[] 25)) := (((Upd.refl [] w5).drewN nq).alloc _).gives (by intro k hk; simp [ablk] at hk; subst hk; exact .inr (Nat.le_refl _))
              refine wpList_app _ rfl _ _ 62 rfl 25 Try.underlying62 infoSl rfl (by decide) (Own.made 25 1 (w5.drewN nq)) rfl hr0 rfl (fun u hu => hone u (List.mem_of_mem_take hu)) (by unfold maxLen; omega) (by omega) ?_
              intro A6 c6 w6 ho6 hu6
              have U6 := U55.trans hu6
              obtain ⟨A7, hA7⟩ : ∃ A7, (if c1 = 1 then some ad1 else some ⟨ad1.block, ad1.off + 1, none⟩) = A7 := ⟨_, rfl⟩
              have hr7 := Rd.cut (hleft.rd.upd U6 (by simp)) (k := 1) (cap := c1) (by omega) hcap
              rw [show (if c1 = 1 then some ad1 else Option.map (fun y => y.add (1 * 1)) (some ad1)) = A7 by rw [← hA7, Option.map_some, Nat.mul_one]; rfl] at hr7
              clear hr0 U55 hu6 hrd q5
              rw [Nat.zero_add] at ho6
              repeat' ((fail_if_success (with_reducible refine stop_append rfl ?_)); (fail_if_success (with_reducible refine stop_copy rfl ?_)); first | go_values | go_skip | go_guarded | go_step | go_upon | (simp only []; go_at_K))
              refine wpList_app _ rfl _ _ 62 rfl 25 Try.underlying62 infoSl rfl (by decide) ho6 rfl hr7 rfl (fun u hu => hone u (List.mem_of_mem_drop hu)) (by unfold maxLen; omega) (by omega) ?_
              intro A8 c8 w8 ho8 hu8
              have H'' : Onc w w8 g A8 (k1 - 1) c8 A5 n5 c5 (P.eraseIdx 0) (L.eraseIdx 0) := Onc.anew h5 U5 (by rw [List.eraseIdx_eq_take_drop_succ, List.map_append, List.map_take, List.map_drop]; simpa using ho8) (U6.trans hu8) (by rw [map_erase, map_erase, hS])
              have hLm' : ∀ z ∈ L.eraseIdx 0, z ∈ l := fun z hz => hLm z ((List.eraseIdx_sublist L 0).subset hz)
              have hLl' : j + 1 + (L.eraseIdx 0).length ≤ 41 := by rw [List.length_eraseIdx, if_pos haL]; omega
              clear ho6 hr7 hA7 hu8 ho8 U6 hleft hone hS h5 U5
              repeat' ((fail_if_success (with_reducible refine stop_append rfl ?_)); (fail_if_success (with_reducible refine stop_copy rfl ?_)); first | go_values | go_skip | go_guarded | go_step | go_upon | (simp only []; go_at_K))
              exact ⟨⟨j + 1, A8, _, c8, A5, n5, c5, _, _, by simp, rfl, H'', hLm', hLl'⟩, by simp [intOf]; omega⟩
    · have hnl : ¬ ((i : Int) < (l.length : Int)) := by omega
      by_cases h0 : i = 0
      · subst h0
        obtain rfl : P = [] := List.eq_nil_of_length_eq_zero hPl
        have C := netLen wr g An nn cn [] H.net
        rw [show (([] : List Pk).length : Int) = 0 from rfl] at C
        have U := H.upd.gives (b' := []) (by simp)
        repeat' ((fail_if_success (with_reducible refine stop_append rfl ?_)); (fail_if_success (with_reducible refine stop_copy rfl ?_)); first | go_values | go_skip | go_guarded | go_step | go_upon | (simp only []; go_at_K))
        ((with_reducible refine C.mono ?_); rintro e w5 ⟨rfl, rfl⟩)
        repeat' ((fail_if_success (with_reducible refine stop_append rfl ?_)); (fail_if_success (with_reducible refine stop_copy rfl ?_)); first | go_values | go_skip | go_guarded | go_step | go_upon | (simp only []; go_at_K))
        go_ret
        exact ⟨rfl, U⟩
      · have hi0 : ((i : Int) == 0) = false := by simp; omega
        have hw : wrap64 (t.toNat : Int) = (t.toNat : Int) := by have := t.toNat_lt; unfold wrap64; omega
        obtain ⟨k, hkk⟩ : ∃ k, t.toNat % i = k := ⟨_, rfl⟩
        have hk : k < i := by rw [← hkk]; exact Nat.mod_lt _ (by omega)
        have hr1 : (t.toNat : Int).tmod (i : Int) = (k : Int) := by rw [← hkk]; rfl
        have hr2 : (t.toNat : Int) % (i : Int) = (k : Int) := by rw [← hkk]; rfl
        clear hkk
        generalize (t.toNat : Int) = tn at *
        have hkl : k < l.length := by omega
        have hkP : k < P.length := by omega
        have C := netDouble wr g An nn cn P H.net k hkP (by omega) (by rw [H.b_at hkP (by rw [List.length_take_of_le hi]; exact hk), List.getElem_take]; exact hb _ (List.getElem_mem hkl))
        have hPb : P[k].b = l[k].b := by rw [H.b_at hkP (by rw [List.length_take_of_le hi]; exact hk), List.getElem_take]
        obtain ⟨ad, hA, Q⟩ := sls_at hl hkl
        subst hA
        have hxm := List.getElem_mem hkl
        generalize l[k] = x at *
        generalize P[k].b = pb at *
        generalize P[k].to = pt at *
        subst hPb
        have hkn : (k : Int) < (l.length : Int) := by omega
        have HK := Lib.hid hk1
        have HP := Lib.hid hPl
        clear hkP hkl hb hk hPl hk1 hlt
        repeat' ((fail_if_success (with_reducible refine stop_append rfl ?_)); (fail_if_success (with_reducible refine stop_copy rfl ?_)); first | go_values | go_skip | go_guarded | go_step | go_upon | (simp only []; go_at_K))
        ((with_reducible refine C.mono ?_); rintro e w3 ⟨A', n', c', y, rfl, -, hyb, h3, hu3⟩)
        obtain ⟨hleft, U3⟩ := H.turn h3 hu3
        have q3 := Q _ _ U3
        have hS := H.same
        clear C H hu3 hr1 hr2 hw
        repeat' ((fail_if_success (with_reducible refine stop_append rfl ?_)); (fail_if_success (with_reducible refine stop_copy rfl ?_)); first | go_values | go_skip | go_guarded | go_step | go_upon | (simp only []; go_at_K))
        refine wpList_push rfl _ _ 62 rfl 25 Try.underlying62 infoSl rfl (by decide) hleft rfl _ rfl (news := [.slice x.A x.k x.c]) rfl rfl rfl (by unfold maxLen; have := HK.out; omega) (by have := HK.out; omega) ?_
        intro A4 c4 w4 ho4 hu4
        have H' : Onc w w4 g A4 (k1 + 1) c4 A' n' c' (P ++ [y]) (l.take i ++ [x]) := Onc.list hleft h3 U3 (by rw [List.map_append]; exact ho4) hu4 (by simp [hS, hyb])
        have hLm : ∀ z ∈ l.take i ++ [x], z ∈ l := by
          intro z hz
          rcases List.mem_append.1 hz with hz | hz
          · exact List.mem_of_mem_take hz
          · rw [List.mem_singleton.1 hz]; exact hxm
        have hLl : (l.take i ++ [x]).length ≤ 41 := by rw [List.length_append, List.length_take_of_le hi]; simp; omega
        generalize l.take i ++ [x] = L0 at *
        clear hleft h3 U3 q3 ho4 hu4 hS hyb
        repeat' ((fail_if_success (with_reducible refine stop_append rfl ?_)); (fail_if_success (with_reducible refine stop_copy rfl ?_)); first | go_values | go_skip | go_guarded | go_step | go_upon | (simp only []; go_at_K))
        go_loopw [10, 13, 14, 15, 16, 17, 18] (fun v10 v13 _ _ _ _ _ wr => ∃ (j : Nat) (A1 : Option Addr) (k1 c1 : Nat) (An : Option Addr) (nn cn : Nat) (P : List Pk) (L : List Sl), v13 = .int .i64 (j : Int) ∧ v10 = .slice A1 k1 c1 ∧ Onc w wr g A1 k1 c1 An nn cn P L ∧ (∀ z ∈ L, z ∈ l) ∧ j + L.length ≤ 41)
          (fun _ v13 _ _ _ _ _ _ => 41 - (intOf v13).toNat)
        case atStart => exact ⟨0, A4, k1 + 1, c4, A', n', c', P ++ [y], L0, rfl, rfl, H', hLm, by omega⟩
        case round =>
          clear H' hLm hLl Q
          obtain ⟨j, A1, k1, c1, An, nn, cn, P, L, rfl, rfl, H, hLm, hjL⟩ := hrel
          obtain ⟨hPl, hk1⟩ := H.len
          by_cases hL0 : L.length = 0
          · obtain rfl : L = [] := List.eq_nil_of_length_eq_zero hL0
            obtain rfl : P = [] := List.eq_nil_of_length_eq_zero (by rw [hPl]; exact hL0)
            have hk0 : k1 = 0 := hk1
            subst hk0
            have C := netLen wr g An nn cn [] H.net
            have C2 := netFirst0 wr g An nn cn H.net 0
            rw [show (([] : List Pk).length : Int) = 0 from rfl] at C
            have U := H.upd.gives (b' := []) (by simp)
            clear H hLm hPl hk1 hL0
            repeat' ((fail_if_success (with_reducible refine stop_append rfl ?_)); (fail_if_success (with_reducible refine stop_copy rfl ?_)); first | go_values | go_skip | go_guarded | go_step | go_upon | (simp only []; go_at_K))
            ((with_reducible refine C.mono ?_); rintro e w5 ⟨rfl, rfl⟩)
            repeat' ((fail_if_success (with_reducible refine stop_append rfl ?_)); (fail_if_success (with_reducible refine stop_copy rfl ?_)); first | go_values | go_skip | go_guarded | go_step | go_upon | (simp only []; go_at_K))
            ((with_reducible refine C2.mono ?_); rintro e w5 ⟨rfl, rfl⟩)
            repeat' ((fail_if_success (with_reducible refine stop_append rfl ?_)); (fail_if_success (with_reducible refine stop_copy rfl ?_)); first | go_values | go_skip | go_guarded | go_step | go_upon | (simp only []; go_at_K))
            go_ret
            exact ⟨rfl, U⟩
          · have hkp : (0 : Int) < (k1 : Int) := by omega
            by_cases hj : j < os.length
            · have hjn : (j : Int) < (os.length : Int) := by omega
              obtain ⟨ad2, hA2, q2⟩ := cell_of_u16 (hos.upd0 H.upd) hj
              subst hA2
              have hm := hob _ (List.getElem_mem hj)
              generalize os[j] = m at *
              have hw : wrap64 (m : Int) = (m : Int) := by unfold wrap64; omega
              obtain ⟨a, haa⟩ : ∃ a, m % k1 = a := ⟨_, rfl⟩
              have ha : a < k1 := by rw [← haa]; exact Nat.mod_lt _ (by omega)
              have hr1 : (m : Int).tmod (k1 : Int) = (a : Int) := by rw [← haa]; rfl
              have hr2 : (m : Int) % (k1 : Int) = (a : Int) := by rw [← haa]; rfl
              clear haa
              generalize (m : Int) = mn at *
              have hak : (a : Int) < (k1 : Int) := by omega
              have haL : a < L.length := by omega
              have haP : a < P.length := by omega
              have C := netTake wr g An nn cn P H.net a haP P[a] rfl
              have hPb : P[a].b = L[a].b := H.b_at haP haL
              generalize hPx : P[a] = x at *
              have hS := H.same
              have HK := Lib.hid hk1
              clear hk1
              repeat' ((fail_if_success (with_reducible refine stop_append rfl ?_)); (fail_if_success (with_reducible refine stop_copy rfl ?_)); first | go_values | go_skip | go_guarded | go_step | go_upon | (simp only []; go_at_K))
              ((with_reducible refine C.mono ?_); rintro e w5 ⟨A5, n5, c5, rfl, h5, hox, -, hu5⟩)
              obtain ⟨hleft, U5⟩ := H.turn h5 hu5
              have hrd := Own.sls hleft
              obtain ⟨ad1, hA1, Q1⟩ := sls_at hrd haL
              subst hA1
              have hzm := hLm _ (List.getElem_mem haL)
              have hzr := (he _ hzm).upd U5 (by simp)
              have q5 := fun N => Q1 _ _ ((Upd.refl [] w5).drewN N)
              obtain ⟨xt, xA, xn, xc, xb⟩ := x
              simp only at hPb hox
              subst hPb
              have s1 := fun N => strOf (hox.rd.drewN N) xc
              have s2 := fun N => strOf (hzr.drewN N) L[a].c
              have hcap := hleft.cap.1
              clear C H hu5 hox hzr Q1 hzm
              generalize L[a].A = zA at *
              generalize L[a].k = zk at *
              generalize L[a].c = zc at *
              generalize L[a].b = zb at *
              repeat' ((fail_if_success (with_reducible refine stop_append rfl ?_)); (fail_if_success (with_reducible refine stop_copy rfl ?_)); first | go_values | go_skip | go_guarded | go_step | go_upon | (simp only []; go_at_K))
              go_quiet (fail)
              clear s1 s2
              repeat' ((fail_if_success (with_reducible refine stop_append rfl ?_)); (fail_if_success (with_reducible refine stop_copy rfl ?_)); first | go_values | go_skip | go_guarded | go_step | go_upon | (simp only []; go_at_K))
              try clear hr1 hr2 hw q2
              have hone : ∀ u ∈ L.map Sl.val, u.oneCell' = true := fun u hu => by obtain ⟨z, _, rfl⟩ := List.mem_map.1 hu; rfl
              have ha1 : (a : Int) + 1 ≤ (k1 : Int) := hak
              have ha0' : (0 : Int) ≤ (a : Int) + 1 := by omega
              have hkc : (k1 : Int) ≤ (c1 : Int) := by omega
              have hac : (a : Int) ≤ (c1 : Int) := by omega
              have hk41 : k1 ≤ 41 := by have := HK.out; omega
              have hr0 := ((Rd.take (k := a) hleft.rd (by omega)).drewN nq).alloc (.cells #[] 25)
              have U55 : Upd [] (ablk (some ⟨w5.heap.size, 0, none⟩)) w5 ((w5.drewN nq).alloc (.cells #[] 25)) := (((Upd.refl [] w5).drewN nq).alloc _).gives (by intro k hk; simp [ablk] at hk; subst hk; exact .inr (Nat.le_refl _))
              refine wpList_app _ rfl _ _ 62 rfl 25 Try.underlying62 infoSl rfl (by decide) (Own.made 25 1 (w5.drewN nq)) rfl hr0 rfl (fun u hu => hone u (List.mem_of_mem_take hu)) (by unfold maxLen; omega) (by omega) ?_
              intro A6 c6 w6 ho6 hu6
              have U6 := U55.trans hu6
              obtain ⟨A7, hA7⟩ : ∃ A7, (if c1 = a + 1 then some ad1 else some ⟨ad1.block, ad1.off + (a + 1), none⟩) = A7 := ⟨_, rfl⟩
              have hr7 := Rd.cut (hleft.rd.upd U6 (by simp)) (k := a + 1) (cap := c1) (by omega) hcap
              rw [show (if c1 = a + 1 then some ad1 else Option.map (fun y => y.add ((a + 1) * 1)) (some ad1)) = A7 by rw [← hA7, Option.map_some, Nat.mul_one]; unfold Addr.add; rw [if_neg (Nat.succ_ne_zero a)]] at hr7
              clear hr0 U55 hu6 hrd q5
              rw [Nat.zero_add] at ho6
              repeat' ((fail_if_success (with_reducible refine stop_append rfl ?_)); (fail_if_success (with_reducible refine stop_copy rfl ?_)); first | go_values | go_skip | go_guarded | go_step | go_upon | (simp only []; go_at_K))
              refine wpList_app _ rfl _ _ 62 rfl 25 Try.underlying62 infoSl rfl (by decide) ho6 rfl hr7 rfl (fun u hu => hone u (List.mem_of_mem_drop hu)) (by unfold maxLen; omega) (by omega) ?_
              intro A8 c8 w8 ho8 hu8
              have H'' : Onc w w8 g A8 (a + (k1 - (a + 1))) c8 A5 n5 c5 (P.eraseIdx a) (L.eraseIdx a) := Onc.anew h5 U5 (by rw [List.eraseIdx_eq_take_drop_succ, List.map_append, List.map_take, List.map_drop]; simpa using ho8) (U6.trans hu8) (by rw [map_erase, map_erase, hS])
              have hLm' : ∀ z ∈ L.eraseIdx a, z ∈ l := fun z hz => hLm z ((List.eraseIdx_sublist L a).subset hz)
              have hLl' : j + 1 + (L.eraseIdx a).length ≤ 41 := by rw [List.length_eraseIdx, if_pos haL]; omega
              clear ho6 hr7 hA7 hu8 ho8 U6 hleft hone hS h5 U5
              repeat' ((fail_if_success (with_reducible refine stop_append rfl ?_)); (fail_if_success (with_reducible refine stop_copy rfl ?_)); first | go_values | go_skip | go_guarded | go_step | go_upon | (simp only []; go_at_K))
              exact ⟨⟨j + 1, A8, _, c8, A5, n5, c5, _, _, by simp, rfl, H'', hLm', hLl'⟩, by simp [intOf]; omega⟩
            · have hjn : ¬ ((j : Int) < (os.length : Int)) := by omega
              have haL : 0 < L.length := by omega
              have haP : 0 < P.length := by omega
              have C := netTake wr g An nn cn P H.net 0 haP P[0] rfl
              rw [show ((0 : Nat) : Int) = 0 from rfl] at C
              have hPb : P[0].b = L[0].b := H.b_at haP haL
              generalize hPx : P[0] = x at *
              have hS := H.same
              have HK := Lib.hid hk1
              clear hk1
              repeat' ((fail_if_success (with_reducible refine stop_append rfl ?_)); (fail_if_success (with_reducible refine stop_copy rfl ?_)); first | go_values | go_skip | go_guarded | go_step | go_upon | (simp only []; go_at_K))
              ((with_reducible refine C.mono ?_); rintro e w5 ⟨A5, n5, c5, rfl, h5, hox, -, hu5⟩)
              obtain ⟨hleft, U5⟩ := H.turn h5 hu5
              have hrd := Own.sls hleft
              obtain ⟨ad1, hA1, Q1⟩ := sls_at hrd haL
              subst hA1
              have hzm := hLm _ (List.getElem_mem haL)
              have hzr := (he _ hzm).upd U5 (by simp)
              have q5 := fun N => Q1 _ _ ((Upd.refl [] w5).drewN N)
              simp only [Addr.add, if_true] at q5
              obtain ⟨xt, xA, xn, xc, xb⟩ := x
              simp only at hPb hox
              subst hPb
              have s1 := fun N => strOf (hox.rd.drewN N) xc
              have s2 := fun N => strOf (hzr.drewN N) L[0].c
              have hcap := hleft.cap.1
              clear C H hu5 hox hzr Q1 hzm
              generalize L[0].A = zA at *
              generalize L[0].k = zk at *
              generalize L[0].c = zc at *
              generalize L[0].b = zb at *
              repeat' ((fail_if_success (with_reducible refine stop_append rfl ?_)); (fail_if_success (with_reducible refine stop_copy rfl ?_)); first | go_values | go_skip | go_guarded | go_step | go_upon | (simp only []; go_at_K))
              go_quiet (fail)
              clear s1 s2
              repeat' ((fail_if_success (with_reducible refine stop_append rfl ?_)); (fail_if_success (with_reducible refine stop_copy rfl ?_)); first | go_values | go_skip | go_guarded | go_step | go_upon | (simp only []; go_at_K))
              have hone : ∀ u ∈ L.map Sl.val, u.oneCell' = true := fun u hu => by obtain ⟨z, _, rfl⟩ := List.mem_map.1 hu; rfl
              have ha1 : (1 : Int) ≤ (k1 : Int) := by omega
              have hkc : (k1 : Int) ≤ (c1 : Int) := by omega
              have hac : (1 : Int) ≤ (c1 : Int) := by omega
              have hk41 : k1 ≤ 41 := by have := HK.out; omega
              have hr0 := ((Rd.take (k := 0) hleft.rd (by omega)).drewN nq).alloc (.cells #[] 25)
              have U55 : Upd [] (ablk (some ⟨w5.heap.size, 0, none⟩)) w5 ((w5.drewN nq).alloc (.cells #[] 25)) := (((Upd.refl [] w5).drewN nq).alloc _).gives (by intro k hk; simp [ablk] at hk; subst hk; exact .inr (Nat.le_refl _))
              refine wpList_app _ rfl _ _ 62 rfl 25 Try.underlying62 infoSl rfl (by decide) (Own.made 25 1 (w5.drewN nq)) rfl hr0 rfl (fun u hu => hone u (List.mem_of_mem_take hu)) (by unfold maxLen; omega) (by omega) ?_
              intro A6 c6 w6 ho6 hu6
              have U6 := U55.trans hu6
              obtain ⟨A7, hA7⟩ : ∃ A7, (if c1 = 1 then some ad1 else some ⟨ad1.block, ad1.off + 1, none⟩) = A7 := ⟨_, rfl⟩
              have hr7 := Rd.cut (hleft.rd.upd U6 (by simp)) (k := 1) (cap := c1) (by omega) hcap
              rw [show (if c1 = 1 then some ad1 else Option.map (fun y => y.add (1 * 1)) (some ad1)) = A7 by rw [← hA7, Option.map_some, Nat.mul_one]; rfl] at hr7
              clear hr0 U55 hu6 hrd q5
              rw [Nat.zero_add] at ho6
              repeat' ((fail_if_success (with_reducible refine stop_append rfl ?_)); (fail_if_success (with_reducible refine stop_copy rfl ?_)); first | go_values | go_skip | go_guarded | go_step | go_upon | (simp only []; go_at_K))
              refine wpList_app _ rfl _ _ 62 rfl 25 Try.underlying62 infoSl rfl (by decide) ho6 rfl hr7 rfl (fun u hu => hone u (List.mem_of_mem_drop hu)) (by unfold maxLen; omega) (by omega) ?_
              intro A8 c8 w8 ho8 hu8
              have H'' : Onc w w8 g A8 (k1 - 1) c8 A5 n5 c5 (P.eraseIdx 0) (L.eraseIdx 0) := Onc.anew h5 U5 (by rw [List.eraseIdx_eq_take_drop_succ, List.map_append, List.map_take, List.map_drop]; simpa using ho8) (U6.trans hu8) (by rw [map_erase, map_erase, hS])
              have hLm' : ∀ z ∈ L.eraseIdx 0, z ∈ l := fun z hz => hLm z ((List.eraseIdx_sublist L 0).subset hz)
              have hLl' : j + 1 + (L.eraseIdx 0).length ≤ 41 := by rw [List.length_eraseIdx, if_pos haL]; omega
              clear ho6 hr7 hA7 hu8 ho8 U6 hleft hone hS h5 U5
              repeat' ((fail_if_success (with_reducible refine stop_append rfl ?_)); (fail_if_success (with_reducible refine stop_copy rfl ?_)); first | go_values | go_skip | go_guarded | go_step | go_upon | (simp only []; go_at_K))
              exact ⟨⟨j + 1, A8, _, c8, A5, n5, c5, _, _, by simp, rfl, H'', hLm', hLl'⟩, by simp [intOf]; omega⟩
end Go.Proofs.Ytdmkhmejpgjioaa
