/- agiolaw20.SidePlays. -/
import Derived.Test.YtdmmpcdilkcfjaaSpl2
namespace Go.Proofs.Ytdmmpcdilkcfjaa
open Go.RowKit Agio

/-- A deed. -/
structure Dq where
  k : Int
  o : Ord
def Dq.cells (d : Dq) : List Value := .int .i64 d.k :: d.o.cells
theorem Dq.cells_len (d : Dq) : d.cells.length = 8 := rfl

/-- The law's state: the side, and the document's list of the same orders. -/
structure Sp (w wr : World) (g bo br : Nat) (s : Int) (R : List Rw) (L : List Ord) (A : Option Addr) (n c : Nat) : Prop where
  side : SideS wr g s bo br R L
  ref : RfL wr A n c L
  apart : ∀ k ∈ ablk A, k ∉ fpS g bo br R
  upd : Upd [] (fpS g bo br R) w wr
section
variable {w wr w' w'' : World} {g bo br : Nat} {s : Int} {R R' : List Rw} {L L' : List Ord} {A A' : Option Addr} {n c n' c' : Nat}
theorem Sp.made (H : Sp w wr g bo br s R L A n c) (hu : Upd [] [] wr w') : Sp w w' g bo br s R L A n c :=
  ⟨H.side.upd0 hu, H.ref.upd0 hu, H.apart, H.upd.trans (hu.up _)⟩
theorem Sp.out (H : Sp w wr g bo br s R L A n c) : ∀ k, wr.heap.size ≤ k → k ∉ fpS g bo br R := fun k hk hm => by have := H.side.lt k hm; omega
theorem Sp.turned (H : Sp w wr g bo br s R L A n c) (hs : SideS w' g s bo br R' L') (hu : Upd (fpS g bo br R) (fpS g bo br R') wr w') :
    RfL w' A n c L ∧ (∀ k ∈ ablk A, k ∉ fpS g bo br R') ∧ Upd [] (fpS g bo br R') w w' :=
  ⟨H.ref.upd hu H.apart, fun k hk hm => by
    rcases hu.fresh k hm with h1 | h1
    · exact H.apart k hk h1
    · have := H.ref.lt k hk; omega, H.upd.trans hu⟩
theorem Sp.both (hs : SideS w' g s bo br R L') (ha : ∀ k ∈ ablk A, k ∉ fpS g bo br R) (hu : Upd [] (fpS g bo br R) w w') (hr : RefL w' A w'' A' n' c' L') : Sp w w'' g bo br s R L' A' n' c' :=
  ⟨hs.upd0 hr.2.1, hr.1, fun k hk hm => by
    rcases hr.2.2 k hk with h1 | h1
    · exact ha k h1 hm
    · have := hs.lt k hm; omega, hu.trans (hr.2.1.up _)⟩
end

set_option maxRecDepth 100000 in
set_option maxHeartbeats 8000000 in
theorem sidePlays_Buy (w : World) (A : Option Addr) (n c : Nat) (l : List Dq) (hl : RdS Dq.cells 8 w A n l) (hw : ∀ d ∈ l, OrdWf d.o) :
    Calls Try.prog 4 #[.bool false, .slice A n c] w fun e w' => e = .returned (.bool true) ∧ Upd [] [] w w' := by
  obtain rfl := hl.len
  have HL := Lib.hid hl
  have HW := Lib.hid hw
  clear hl hw
  go_enter Try.func4, Try.ntmps4
  repeat' ((fail_if_success (with_reducible refine stop_append rfl ?_)); (fail_if_success (with_reducible refine stop_copy rfl ?_)); first | go_values | go_skip | go_guarded | go_step | go_upon | (simp only []; go_at_K))
  ((with_reducible refine (awake20 _).mono ?_); rintro e w1 ⟨rfl, hu1⟩)
  repeat' ((fail_if_success (with_reducible refine stop_append rfl ?_)); (fail_if_success (with_reducible refine stop_copy rfl ?_)); first | go_values | go_skip | go_guarded | go_step | go_upon | (simp only []; go_at_K))
  ((with_reducible refine (sideNew _ 1 (.inl rfl)).mono ?_); rintro e w2 ⟨g, bo, br, rfl, h2, hu2⟩)
  have H2 : Sp w w2 g bo br 1 [] [] none 0 0 := ⟨h2, RfL.none_ _ _, by simp [ablk], hu1.trans hu2⟩
  clear h2 hu1 hu2
  repeat' ((fail_if_success (with_reducible refine stop_append rfl ?_)); (fail_if_success (with_reducible refine stop_copy rfl ?_)); first | go_values | go_skip | go_guarded | go_step | go_upon | (simp only []; go_at_K))
  go_loopw [8, 9] (fun v8 v9 wr => ∃ (i : Nat) (R : List Rw) (L : List Ord) (A1 : Option Addr) (n1 c1 : Nat), i ≤ l.length ∧ i ≤ 300 ∧ v9 = .int .i64 (i : Int) ∧ v8 = .slice A1 n1 c1 ∧ Sp w wr g bo br 1 R L A1 n1 c1)
    (fun _ v9 _ => 300 - (intOf v9).toNat)
  case atStart => exact ⟨0, [], [], none, 0, 0, by omega, by omega, rfl, rfl, H2⟩
  case round =>
    clear H2
    obtain ⟨i, R, L, A1, n1, c1, hi, hi3, rfl, rfl, H⟩ := hrel
    by_cases hlt : i < l.length
    · by_cases h300 : i < 300
      · have hil : (i : Int) < (l.length : Int) := by omega
        have hi1 : (i : Int) < 300 := by omega
        have hw1 : IntKind.i64.wrap ((i : Int) + 1) = (i : Int) + 1 := by rw [IntKind.wrap_i64]; omega
        obtain ⟨ad, hA, p0', p1'⟩ := RdS.at_ Dq.cells_len (HL.out.upd H.upd (by simp)) hlt
        subst hA
        have p0 := p0' _ rfl
        have p1 := p1' 1 _ (by omega) rfl
        have p2 := p1' 2 _ (by omega) rfl
        have p3 := p1' 3 _ (by omega) rfl
        have p4 := p1' 4 _ (by omega) rfl
        have p5 := p1' 5 _ (by omega) rfl
        have p6 := p1' 6 _ (by omega) rfl
        have p7 := p1' 7 _ (by omega) rfl
        have hwo := HW.out _ (List.getElem_mem hlt)
        clear p0' p1'
        generalize l[i] = d at *
        obtain ⟨k, o⟩ := d
        simp only at p0 p1 p2 p3 p4 p5 p6 p7 hwo
        clear hlt
        have hD := Blk.new wr 42 #[.int .i64 k, .int .i64 o.id, .int .i64 o.client, .int .i64 o.side, .int .i64 o.price, .int .i64 o.qty, .bool o.peg, .int .i64 o.off]
        have UD : Upd [] [] wr (wr.alloc (.cells #[.int .i64 k, .int .i64 o.id, .int .i64 o.client, .int .i64 o.side, .int .i64 o.price, .int .i64 o.qty, .bool o.peg, .int .i64 o.off] 42)) := (Upd.refl _ _).alloc _
        have hgD := H.out wr.heap.size (Nat.le_refl _)
        have H1 := H.made UD
        obtain ⟨W, hW⟩ : ∃ W, wr.alloc (.cells #[.int .i64 k, .int .i64 o.id, .int .i64 o.client, .int .i64 o.side, .int .i64 o.price, .int .i64 o.qty, .bool o.peg, .int .i64 o.off] 42) = W := ⟨_, rfl⟩
        obtain ⟨b10, hb10⟩ : ∃ b, wr.heap.size = b := ⟨_, rfl⟩
        rw [hW] at hD H1
        rw [hb10] at hD hgD
        obtain ⟨⟨d0, d1, d2, d3, d4, d5, d6, d7⟩, -⟩ := hD.c8
        clear UD H
        by_cases hk0 : k = 0
        · have hkb : (k == 0) = true := by rw [hk0]; rfl
          clear hk0
          have C := sidePut_any W g bo br 1 R L H1.side o hwo
          rw [Ord.val] at C
          repeat' ((fail_if_success (with_reducible refine stop_append rfl ?_)); (fail_if_success (with_reducible refine stop_copy rfl ?_)); first | go_values | go_skip | go_guarded | go_step | go_upon | (simp only []; go_at_K))
          clear hW p0 p1 p2 p3 p4 p5 p6 p7 d0 d1 d2 d3 d4 d5 d6 d7 hb10
          ((with_reducible refine C.mono ?_); rintro e w3 ⟨R', rfl, hs3, hu3⟩)
          obtain ⟨hr3, ha3, U3⟩ := H1.turned hs3 hu3
          have hD3 := hD.upd hu3 hgD
          obtain ⟨⟨d0, d1, d2, d3, d4, d5, d6, d7⟩, -⟩ := hD3.c8
          have CR := law20Real w3 o
          rw [Ord.val] at CR
          have hris := H1.side.sd.rising
          have hlen := H1.side.sd.len
          clear C hD hgD H1 hu3
          repeat' ((fail_if_success (with_reducible refine stop_append rfl ?_)); (fail_if_success (with_reducible refine stop_copy rfl ?_)); first | go_values | go_skip | go_guarded | go_step | go_upon | (simp only []; go_at_K))
          ((with_reducible refine CR.mono ?_); rintro e w4 ⟨rfl, hu4⟩)
          have hD4 := hD3.upd hu4 (by simp)
          have C2 := refPut_any w4 A1 n1 c1 L (hr3.upd0 hu4) 1 o hris (by omega)
          have hs4 := hs3.upd0 hu4
          have U4 := U3.trans (hu4.up _)
          rw [Ord.val] at C2
          clear CR hD3 d0 d1 d2 d3 d4 d5 d6 d7 hris hlen hr3 hs3 U3 hu4
          repeat' ((fail_if_success (with_reducible refine stop_append rfl ?_)); (fail_if_success (with_reducible refine stop_copy rfl ?_)); first | go_values | go_skip | go_guarded | go_step | go_upon | (simp only []; go_at_K))
          ((with_reducible refine C2.mono ?_); rintro e w5 ⟨A2, n2, c2, rfl, h5⟩)
          have H5 := Sp.both hs4 ha3 U4 h5
          have hD5 := hD4.upd h5.2.1 (by simp)
          have hne := bne_self_eq_false (putE 1 o L)
          clear C2 hs4 ha3 U4 h5 hD4
          generalize putE 1 o L = pe at *

          have hq5 := H5.side.sd
          have hwp := hwo.price
          have C3 := sideBest _ g bo br _ _ _ H5.side
          clear hwo
          obtain ⟨LL, hLL⟩ : ∃ LL, putL 1 o L = LL := ⟨_, rfl⟩
          rw [hLL] at H5 hq5 C3
          clear hLL
          have hn5 := H5.ref.rd.len
          subst hn5
          repeat' ((fail_if_success (with_reducible refine stop_append rfl ?_)); (fail_if_success (with_reducible refine stop_copy rfl ?_)); first | go_values | go_skip | go_guarded | go_step | go_upon | (simp only []; go_at_K))
          ((with_reducible refine C3.mono ?_); rintro e w6 ⟨rfl, hu6⟩)
          clear C3
          have H6 := H5.made hu6
          have hD6 := hD5.upd hu6 (by simp)
          clear H5 hD5 hu6
          have CL : ∀ p : GU w6, Calls Try.prog 10 #[.pointer (some ⟨g, 0, none⟩)] p.w fun e w' => e = .returned (.int .i64 (LL.length : Int)) ∧ ∃ q : GU w6, w' = q.w :=
            fun p => (sideLen p.w g bo br _ _ LL (H6.side.upd0 p.u)).mono fun _ _ ⟨he, hw⟩ => ⟨he, p, hw.symm⟩
          have CA : ∀ p : GU w6, Calls Try.prog 21 #[.pointer (some ⟨g, 0, none⟩), .int .i64 o.price] p.w fun e w' => e = .returned (.int .i64 (sumAt o.price LL)) ∧ ∃ q : GU w6, w' = q.w :=
            fun p => p.call (sideAt p.w g bo br _ _ LL (H6.side.upd0 p.u) o.price hwp)
          have CR : ∀ p : GU w6, Calls Try.prog 22 #[.slice A2 LL.length c2, .int .i64 o.price] p.w fun e w' => e = .returned (.int .i64 (sumAt o.price LL)) ∧ ∃ q : GU w6, w' = q.w :=
            fun p => (refAt p.w A2 LL.length c2 LL (H6.ref.upd0 p.u).rd (fun o ho => by have := hq5.may o ho; simp only [mayO, decide_eq_true_eq] at this; omega) hq5.len o.price).mono fun _ _ ⟨he, hw⟩ => ⟨he, p, hw.symm⟩
          have d4 := fun p : GU w6 => (hD6.upd p.u (by simp)).cell 4
          simp only [List.getElem?_toArray, List.getElem?_cons_succ, List.getElem?_cons_zero] at d4
          have n1 := bne_self_eq_false (LL.length : Int)
          have n2 := bne_self_eq_false (sumAt o.price LL)
          have HQ := Lib.hid hq5
          clear hD6 hwp hq5
          generalize hsum : sumAt o.price LL = sm at *
          generalize o.price = px at *
          have hcs : LL = [] ∨ ∃ h0 : 0 < LL.length, bestO LL = LL[0].price ∧ LL.isEmpty = false := by
            cases LL with
            | nil => exact .inl rfl
            | cons x r => exact .inr ⟨by simp, rfl, rfl⟩
          clear hsum
          rcases hcs with h0 | ⟨h0, hbx, hex⟩
          · subst h0
            simp only [List.length_nil, bestO, List.isEmpty_nil] at *
            repeat' ((fail_if_success (with_reducible refine stop_append rfl ?_)); (fail_if_success (with_reducible refine stop_copy rfl ?_)); first | go_values | go_skip | go_guarded | go_step | go_upon | (simp only []; go_at_K))
            refine quiet_gu (by kernel_rfl) (by kernel_rfl) ?_
            repeat (go_big_quiet_step (first | exact CL _ | exact CA _ | exact CR _))
            refine wpQuiet_nil ?_
            rintro _ ⟨p, rfl⟩
            repeat' ((fail_if_success (with_reducible refine stop_append rfl ?_)); (fail_if_success (with_reducible refine stop_copy rfl ?_)); first | go_values | go_skip | go_guarded | go_step | go_upon | (simp only []; go_at_K))
            exact ⟨⟨i + 1, _, [], _, _, _, by omega, by omega, by simp, rfl, H6.made p.u⟩, by simp [intOf]; omega⟩
          · rw [hbx, hex]
            obtain ⟨ax, hax, -, -, -, q3, -⟩ := ord_at H6.ref.rd h0
            subst hax
            have q3' : w6.cell? ⟨ax.block, ax.off + 3, none⟩ = some (.int .i64 LL[0].price) := by simpa [Addr.add] using q3
            have q3p := fun p : GU w6 => p.u.cell q3' (by simp)
            have hg1 : decide ((0 : Int) < (LL.length : Int)) = true := decide_eq_true (by omega)
            have hg2 : decide (0 < LL.length) = true := decide_eq_true h0
            have hg3 : (0 : Int) < (LL.length : Int) := by omega
            have n3 := bne_self_eq_false LL[0].price
            clear q3 q3' hbx hex
            generalize LL[0].price = xp at *
            repeat' ((fail_if_success (with_reducible refine stop_append rfl ?_)); (fail_if_success (with_reducible refine stop_copy rfl ?_)); first | go_values | go_skip | go_guarded | go_step | go_upon | (simp only []; go_at_K))
            refine quiet_gu (by kernel_rfl) (by kernel_rfl) ?_
            repeat (go_big_quiet_step (first | exact CL _ | exact CA _ | exact CR _))
            refine wpQuiet_nil ?_
            rintro _ ⟨p, rfl⟩
            repeat' ((fail_if_success (with_reducible refine stop_append rfl ?_)); (fail_if_success (with_reducible refine stop_copy rfl ?_)); first | go_values | go_skip | go_guarded | go_step | go_upon | (simp only []; go_at_K))
            exact ⟨⟨i + 1, _, LL, _, _, _, by omega, by omega, by simp, rfl, H6.made p.u⟩, by simp [intOf]; omega⟩
        · by_cases hk1 : k = 1
          · have hkb : (k == 0) = false := beq_false_of_ne hk0
            have hkb1 : (k == 1) = true := by rw [hk1]; rfl
            clear hk0 hk1
            have C := sideCut_any W g bo br 1 R L H1.side o.id o.qty hwo.id
            repeat' ((fail_if_success (with_reducible refine stop_append rfl ?_)); (fail_if_success (with_reducible refine stop_copy rfl ?_)); first | go_values | go_skip | go_guarded | go_step | go_upon | (simp only []; go_at_K))
            clear hW p0 p1 p2 p3 p4 p5 p6 p7 d0 d1 d2 d3 d4 d5 d6 d7 hb10
            ((with_reducible refine C.mono ?_); rintro e w3 ⟨rfl, hs3, hu3⟩)
            obtain ⟨hr3, ha3, U3⟩ := H1.turned hs3 hu3
            have hD3 := hD.upd hu3 hgD
            obtain ⟨⟨d0, d1, d2, d3, d4, d5, d6, d7⟩, -⟩ := hD3.c8
            have C2 := refCut w3 A1 n1 c1 L hr3 H1.side.sd.ids (by have := H1.side.sd.len; omega) o.id o.qty
            clear C hD hgD H1 hu3
            repeat' ((fail_if_success (with_reducible refine stop_append rfl ?_)); (fail_if_success (with_reducible refine stop_copy rfl ?_)); first | go_values | go_skip | go_guarded | go_step | go_upon | (simp only []; go_at_K))
            ((with_reducible refine C2.mono ?_); rintro e w5 ⟨A2, n2, c2, rfl, h5⟩)
            have H5 := Sp.both hs3 ha3 U3 h5
            have hD5 := hD3.upd h5.2.1 (by simp)
            have hne := bne_self_eq_false (cutE o.id o.qty L)
            clear C2 hs3 ha3 U3 h5 hD3 d0 d1 d2 d3 d4 d5 d6 d7
            generalize cutE o.id o.qty L = pe at *

            have hq5 := H5.side.sd
            have hwp := hwo.price
            have C3 := sideBest _ g bo br _ _ _ H5.side
            clear hwo
            obtain ⟨LL, hLL⟩ : ∃ LL, cutL o.id o.qty L = LL := ⟨_, rfl⟩
            rw [hLL] at H5 hq5 C3
            clear hLL
            have hn5 := H5.ref.rd.len
            subst hn5
            repeat' ((fail_if_success (with_reducible refine stop_append rfl ?_)); (fail_if_success (with_reducible refine stop_copy rfl ?_)); first | go_values | go_skip | go_guarded | go_step | go_upon | (simp only []; go_at_K))
            ((with_reducible refine C3.mono ?_); rintro e w6 ⟨rfl, hu6⟩)
            clear C3
            have H6 := H5.made hu6
            have hD6 := hD5.upd hu6 (by simp)
            clear H5 hD5 hu6
            have CL : ∀ p : GU w6, Calls Try.prog 10 #[.pointer (some ⟨g, 0, none⟩)] p.w fun e w' => e = .returned (.int .i64 (LL.length : Int)) ∧ ∃ q : GU w6, w' = q.w :=
              fun p => (sideLen p.w g bo br _ _ LL (H6.side.upd0 p.u)).mono fun _ _ ⟨he, hw⟩ => ⟨he, p, hw.symm⟩
            have CA : ∀ p : GU w6, Calls Try.prog 21 #[.pointer (some ⟨g, 0, none⟩), .int .i64 o.price] p.w fun e w' => e = .returned (.int .i64 (sumAt o.price LL)) ∧ ∃ q : GU w6, w' = q.w :=
              fun p => p.call (sideAt p.w g bo br _ _ LL (H6.side.upd0 p.u) o.price hwp)
            have CR : ∀ p : GU w6, Calls Try.prog 22 #[.slice A2 LL.length c2, .int .i64 o.price] p.w fun e w' => e = .returned (.int .i64 (sumAt o.price LL)) ∧ ∃ q : GU w6, w' = q.w :=
              fun p => (refAt p.w A2 LL.length c2 LL (H6.ref.upd0 p.u).rd (fun o ho => by have := hq5.may o ho; simp only [mayO, decide_eq_true_eq] at this; omega) hq5.len o.price).mono fun _ _ ⟨he, hw⟩ => ⟨he, p, hw.symm⟩
            have d4 := fun p : GU w6 => (hD6.upd p.u (by simp)).cell 4
            simp only [List.getElem?_toArray, List.getElem?_cons_succ, List.getElem?_cons_zero] at d4
            have n1 := bne_self_eq_false (LL.length : Int)
            have n2 := bne_self_eq_false (sumAt o.price LL)
            have HQ := Lib.hid hq5
            clear hD6 hwp hq5
            generalize hsum : sumAt o.price LL = sm at *
            generalize o.price = px at *
            have hcs : LL = [] ∨ ∃ h0 : 0 < LL.length, bestO LL = LL[0].price ∧ LL.isEmpty = false := by
              cases LL with
              | nil => exact .inl rfl
              | cons x r => exact .inr ⟨by simp, rfl, rfl⟩
            clear hsum
            rcases hcs with h0 | ⟨h0, hbx, hex⟩
            · subst h0
              simp only [List.length_nil, bestO, List.isEmpty_nil] at *
              repeat' ((fail_if_success (with_reducible refine stop_append rfl ?_)); (fail_if_success (with_reducible refine stop_copy rfl ?_)); first | go_values | go_skip | go_guarded | go_step | go_upon | (simp only []; go_at_K))
              refine quiet_gu (by kernel_rfl) (by kernel_rfl) ?_
              repeat (go_big_quiet_step (first | exact CL _ | exact CA _ | exact CR _))
              refine wpQuiet_nil ?_
              rintro _ ⟨p, rfl⟩
              repeat' ((fail_if_success (with_reducible refine stop_append rfl ?_)); (fail_if_success (with_reducible refine stop_copy rfl ?_)); first | go_values | go_skip | go_guarded | go_step | go_upon | (simp only []; go_at_K))
              exact ⟨⟨i + 1, _, [], _, _, _, by omega, by omega, by simp, rfl, H6.made p.u⟩, by simp [intOf]; omega⟩
            · rw [hbx, hex]
              obtain ⟨ax, hax, -, -, -, q3, -⟩ := ord_at H6.ref.rd h0
              subst hax
              have q3' : w6.cell? ⟨ax.block, ax.off + 3, none⟩ = some (.int .i64 LL[0].price) := by simpa [Addr.add] using q3
              have q3p := fun p : GU w6 => p.u.cell q3' (by simp)
              have hg1 : decide ((0 : Int) < (LL.length : Int)) = true := decide_eq_true (by omega)
              have hg2 : decide (0 < LL.length) = true := decide_eq_true h0
              have hg3 : (0 : Int) < (LL.length : Int) := by omega
              have n3 := bne_self_eq_false LL[0].price
              clear q3 q3' hbx hex
              generalize LL[0].price = xp at *
              repeat' ((fail_if_success (with_reducible refine stop_append rfl ?_)); (fail_if_success (with_reducible refine stop_copy rfl ?_)); first | go_values | go_skip | go_guarded | go_step | go_upon | (simp only []; go_at_K))
              refine quiet_gu (by kernel_rfl) (by kernel_rfl) ?_
              repeat (go_big_quiet_step (first | exact CL _ | exact CA _ | exact CR _))
              refine wpQuiet_nil ?_
              rintro _ ⟨p, rfl⟩
              repeat' ((fail_if_success (with_reducible refine stop_append rfl ?_)); (fail_if_success (with_reducible refine stop_copy rfl ?_)); first | go_values | go_skip | go_guarded | go_step | go_upon | (simp only []; go_at_K))
              exact ⟨⟨i + 1, _, LL, _, _, _, by omega, by omega, by simp, rfl, H6.made p.u⟩, by simp [intOf]; omega⟩
          · have hkb : (k == 0) = false := beq_false_of_ne hk0
            have hkb1 : (k == 1) = false := beq_false_of_ne hk1
            clear hk0 hk1
            have C := sideDrop_any W g bo br 1 R L H1.side o.id hwo.id
            have C2 := fun (V : World) (hV : RfL V A1 n1 c1 L) => refDrop V A1 n1 c1 L hV H1.side.sd.ids (by have := H1.side.sd.len; omega) o.id
            rw [Ord.val] at C
            simp only [Ord.val] at C2
            generalize getO o.id L = z at *
            generalize (findO o.id L).isSome = fb at *
            repeat' ((fail_if_success (with_reducible refine stop_append rfl ?_)); (fail_if_success (with_reducible refine stop_copy rfl ?_)); first | go_values | go_skip | go_guarded | go_step | go_upon | (simp only []; go_at_K))
            clear hW p0 p1 p2 p3 p4 p5 p6 p7 d0 d1 d2 d3 d4 d5 d6 d7 hb10
            ((with_reducible refine C.mono ?_); rintro e w3 ⟨R', rfl, hs3, hu3⟩)
            obtain ⟨hr3, ha3, U3⟩ := H1.turned hs3 hu3
            have hD3 := hD.upd hu3 hgD
            have UB : Upd [] [] w3 (w3.alloc (.cells #[.int .i64 z.id, .int .i64 z.client, .int .i64 z.side, .int .i64 z.price, .int .i64 z.qty, .bool z.peg, .int .i64 z.off] 32)) := (Upd.refl _ _).alloc _
            have hB := Blk.new w3 32 #[.int .i64 z.id, .int .i64 z.client, .int .i64 z.side, .int .i64 z.price, .int .i64 z.qty, .bool z.peg, .int .i64 z.off]
            obtain ⟨W4, hW4⟩ : ∃ W, w3.alloc (.cells #[.int .i64 z.id, .int .i64 z.client, .int .i64 z.side, .int .i64 z.price, .int .i64 z.qty, .bool z.peg, .int .i64 z.off] 32) = W := ⟨_, rfl⟩
            obtain ⟨b17, hb17⟩ : ∃ b, w3.heap.size = b := ⟨_, rfl⟩
            rw [hW4] at UB hB
            rw [hb17] at hB
            have hr4 := hr3.upd0 UB
            have hs4 := hs3.upd0 UB
            have hD4 := hD3.upd UB (by simp)
            have U4 := U3.trans (UB.up _)
            obtain ⟨⟨d0, d1, d2, d3, d4, d5, d6, d7⟩, -⟩ := hD4.c8
            clear C hD hgD H1 hu3 hr3 hs3 hD3 U3 UB
            repeat' ((fail_if_success (with_reducible refine stop_append rfl ?_)); (fail_if_success (with_reducible refine stop_copy rfl ?_)); first | go_values | go_skip | go_guarded | go_step | go_upon | (simp only []; go_at_K))
            clear hW4 hb17
            ((with_reducible refine (C2 W4 hr4).mono ?_); rintro e w5 ⟨A2, n2, c2, rfl, h5⟩)
            have H5 := Sp.both hs4 ha3 U4 h5
            have hD5 := hD4.upd h5.2.1 (by simp)
            have hB5 := hB.upd h5.2.1 (by simp)
            clear C2 hs4 ha3 U4 h5 hD4 hB hr4 d0 d1 d2 d3 d4 d5 d6 d7
            have UB : Upd [] [] w5 (w5.alloc (.cells #[.int .i64 z.id, .int .i64 z.client, .int .i64 z.side, .int .i64 z.price, .int .i64 z.qty, .bool z.peg, .int .i64 z.off] 45)) := (Upd.refl _ _).alloc _
            have hE := Blk.new w5 45 #[.int .i64 z.id, .int .i64 z.client, .int .i64 z.side, .int .i64 z.price, .int .i64 z.qty, .bool z.peg, .int .i64 z.off]
            obtain ⟨W6, hW6⟩ : ∃ W, w5.alloc (.cells #[.int .i64 z.id, .int .i64 z.client, .int .i64 z.side, .int .i64 z.price, .int .i64 z.qty, .bool z.peg, .int .i64 z.off] 45) = W := ⟨_, rfl⟩
            obtain ⟨b20, hb20⟩ : ∃ b, w5.heap.size = b := ⟨_, rfl⟩
            rw [hW6] at UB hE
            rw [hb20] at hE
            have H6 := H5.made UB
            have hD6 := hD5.upd UB (by simp)
            have hB6 := hB5.upd UB (by simp)
            clear H5 hD5 hB5 UB
            have E := neSelfRefO
            have hne := bne_self_eq_false fb
            have CW : ∀ p : GU W6, Calls Try.prog 17 #[z.val] p.w fun e w' => e = .returned z.val ∧ ∃ q : GU W6, w' = q.w := fun p => p.call (law20Real p.w z)
            simp only [Ord.val] at CW
            have y0 := fun p : GU W6 => (hB6.upd p.u (by simp)).c7.1
            have x0 := fun p : GU W6 => (hE.upd p.u (by simp)).c7.1
            have y1 := fun p => (y0 p).1
            have y2 := fun p => (y0 p).2.1
            have y3 := fun p => (y0 p).2.2.1
            have y4 := fun p => (y0 p).2.2.2.1
            have y5 := fun p => (y0 p).2.2.2.2.1
            have y6 := fun p => (y0 p).2.2.2.2.2.1
            have y7 := fun p => (y0 p).2.2.2.2.2.2
            have x1 := fun p => (x0 p).1
            have x2 := fun p => (x0 p).2.1
            have x3 := fun p => (x0 p).2.2.1
            have x4 := fun p => (x0 p).2.2.2.1
            have x5 := fun p => (x0 p).2.2.2.2.1
            have x6 := fun p => (x0 p).2.2.2.2.2.1
            have x7 := fun p => (x0 p).2.2.2.2.2.2
            clear y0 x0 hB6 hE
            repeat' ((fail_if_success (with_reducible refine stop_append rfl ?_)); (fail_if_success (with_reducible refine stop_copy rfl ?_)); first | go_values | go_skip | go_guarded | go_step | go_upon | (simp only []; go_at_K))
            refine quiet_gu (by kernel_rfl) (by kernel_rfl) ?_
            repeat (go_big_quiet_step (first | exact CW _))
            refine wpQuiet_nil ?_
            rintro _ ⟨p, rfl⟩
            clear hW6 hb20
            have H5 := H6.made p.u
            have hD5 := hD6.upd p.u (by simp)
            clear H6 hD6 CW E y1 y2 y3 y4 y5 y6 y7 x1 x2 x3 x4 x5 x6 x7
            generalize p.w = w7 at *
            have hq5 := H5.side.sd
            have hwp := hwo.price
            have C3 := sideBest _ g bo br _ _ _ H5.side
            clear hwo
            obtain ⟨LL, hLL⟩ : ∃ LL, dropO o.id L = LL := ⟨_, rfl⟩
            rw [hLL] at H5 hq5 C3
            clear hLL
            have hn5 := H5.ref.rd.len
            subst hn5
            repeat' ((fail_if_success (with_reducible refine stop_append rfl ?_)); (fail_if_success (with_reducible refine stop_copy rfl ?_)); first | go_values | go_skip | go_guarded | go_step | go_upon | (simp only []; go_at_K))
            ((with_reducible refine C3.mono ?_); rintro e w6 ⟨rfl, hu6⟩)
            clear C3
            have H6 := H5.made hu6
            have hD6 := hD5.upd hu6 (by simp)
            clear H5 hD5 hu6
            have CL : ∀ p : GU w6, Calls Try.prog 10 #[.pointer (some ⟨g, 0, none⟩)] p.w fun e w' => e = .returned (.int .i64 (LL.length : Int)) ∧ ∃ q : GU w6, w' = q.w :=
              fun p => (sideLen p.w g bo br _ _ LL (H6.side.upd0 p.u)).mono fun _ _ ⟨he, hw⟩ => ⟨he, p, hw.symm⟩
            have CA : ∀ p : GU w6, Calls Try.prog 21 #[.pointer (some ⟨g, 0, none⟩), .int .i64 o.price] p.w fun e w' => e = .returned (.int .i64 (sumAt o.price LL)) ∧ ∃ q : GU w6, w' = q.w :=
              fun p => p.call (sideAt p.w g bo br _ _ LL (H6.side.upd0 p.u) o.price hwp)
            have CR : ∀ p : GU w6, Calls Try.prog 22 #[.slice A2 LL.length c2, .int .i64 o.price] p.w fun e w' => e = .returned (.int .i64 (sumAt o.price LL)) ∧ ∃ q : GU w6, w' = q.w :=
              fun p => (refAt p.w A2 LL.length c2 LL (H6.ref.upd0 p.u).rd (fun o ho => by have := hq5.may o ho; simp only [mayO, decide_eq_true_eq] at this; omega) hq5.len o.price).mono fun _ _ ⟨he, hw⟩ => ⟨he, p, hw.symm⟩
            have d4 := fun p : GU w6 => (hD6.upd p.u (by simp)).cell 4
            simp only [List.getElem?_toArray, List.getElem?_cons_succ, List.getElem?_cons_zero] at d4
            have n1 := bne_self_eq_false (LL.length : Int)
            have n2 := bne_self_eq_false (sumAt o.price LL)
            have HQ := Lib.hid hq5
            clear hD6 hwp hq5
            generalize hsum : sumAt o.price LL = sm at *
            generalize o.price = px at *
            have hcs : LL = [] ∨ ∃ h0 : 0 < LL.length, bestO LL = LL[0].price ∧ LL.isEmpty = false := by
              cases LL with
              | nil => exact .inl rfl
              | cons x r => exact .inr ⟨by simp, rfl, rfl⟩
            clear hsum
            rcases hcs with h0 | ⟨h0, hbx, hex⟩
            · subst h0
              simp only [List.length_nil, bestO, List.isEmpty_nil] at *
              repeat' ((fail_if_success (with_reducible refine stop_append rfl ?_)); (fail_if_success (with_reducible refine stop_copy rfl ?_)); first | go_values | go_skip | go_guarded | go_step | go_upon | (simp only []; go_at_K))
              refine quiet_gu (by kernel_rfl) (by kernel_rfl) ?_
              repeat (go_big_quiet_step (first | exact CL _ | exact CA _ | exact CR _))
              refine wpQuiet_nil ?_
              rintro _ ⟨p, rfl⟩
              repeat' ((fail_if_success (with_reducible refine stop_append rfl ?_)); (fail_if_success (with_reducible refine stop_copy rfl ?_)); first | go_values | go_skip | go_guarded | go_step | go_upon | (simp only []; go_at_K))
              exact ⟨⟨i + 1, _, [], _, _, _, by omega, by omega, by simp, rfl, H6.made p.u⟩, by simp [intOf]; omega⟩
            · rw [hbx, hex]
              obtain ⟨ax, hax, -, -, -, q3, -⟩ := ord_at H6.ref.rd h0
              subst hax
              have q3' : w6.cell? ⟨ax.block, ax.off + 3, none⟩ = some (.int .i64 LL[0].price) := by simpa [Addr.add] using q3
              have q3p := fun p : GU w6 => p.u.cell q3' (by simp)
              have hg1 : decide ((0 : Int) < (LL.length : Int)) = true := decide_eq_true (by omega)
              have hg2 : decide (0 < LL.length) = true := decide_eq_true h0
              have hg3 : (0 : Int) < (LL.length : Int) := by omega
              have n3 := bne_self_eq_false LL[0].price
              clear q3 q3' hbx hex
              generalize LL[0].price = xp at *
              repeat' ((fail_if_success (with_reducible refine stop_append rfl ?_)); (fail_if_success (with_reducible refine stop_copy rfl ?_)); first | go_values | go_skip | go_guarded | go_step | go_upon | (simp only []; go_at_K))
              refine quiet_gu (by kernel_rfl) (by kernel_rfl) ?_
              repeat (go_big_quiet_step (first | exact CL _ | exact CA _ | exact CR _))
              refine wpQuiet_nil ?_
              rintro _ ⟨p, rfl⟩
              repeat' ((fail_if_success (with_reducible refine stop_append rfl ?_)); (fail_if_success (with_reducible refine stop_copy rfl ?_)); first | go_values | go_skip | go_guarded | go_step | go_upon | (simp only []; go_at_K))
              exact ⟨⟨i + 1, _, LL, _, _, _, by omega, by omega, by simp, rfl, H6.made p.u⟩, by simp [intOf]; omega⟩
      · obtain rfl : i = 300 := by omega
        have hil : (300 : Int) < (l.length : Int) := by omega
        have hq := H.side.sd
        have hLn := H.ref.rd.len
        subst hLn
        have C1 := sideList wr g bo br 1 R L H.side
        repeat' ((fail_if_success (with_reducible refine stop_append rfl ?_)); (fail_if_success (with_reducible refine stop_copy rfl ?_)); first | go_values | go_skip | go_guarded | go_step | go_upon | (simp only []; go_at_K))
        ((with_reducible refine C1.mono ?_); rintro e w3 ⟨A3, c3, rfl, ho3, hu3⟩)
        have H3 := H.made (hu3.gives (by simp))
        clear C1 H hu3
        have C2 := law20Same w3 A3 A1 L.length c3 c1 L ⟨rfl, ho3.rd⟩ H3.ref.rd (by have := hq.len; omega)
        repeat' ((fail_if_success (with_reducible refine stop_append rfl ?_)); (fail_if_success (with_reducible refine stop_copy rfl ?_)); first | go_values | go_skip | go_guarded | go_step | go_upon | (simp only []; go_at_K))
        ((with_reducible refine C2.mono ?_); rintro e w4 ⟨rfl, hu4⟩)
        have H4 := H3.made hu4
        clear C2 H3 hu4 ho3
        have C3 := sidePrices w4 g bo br 1 R L H4.side
        repeat' ((fail_if_success (with_reducible refine stop_append rfl ?_)); (fail_if_success (with_reducible refine stop_copy rfl ?_)); first | go_values | go_skip | go_guarded | go_step | go_upon | (simp only []; go_at_K))
        ((with_reducible refine C3.mono ?_); rintro e w5 ⟨A5, c5, ps, rfl, ho5, hps, hpl, hu5⟩)
        have H5 := H4.made (hu5.gives (by simp))
        clear C3 H4 hu5
        have hpo := hps.prices hq.rising
        have C4 := refPrices w5 A1 L.length c1 L H5.ref.rd (by have := hq.len; omega)
        rw [hpo.symm] at ho5
        have hpl2 := pricesO_len L
        repeat' ((fail_if_success (with_reducible refine stop_append rfl ?_)); (fail_if_success (with_reducible refine stop_copy rfl ?_)); first | go_values | go_skip | go_guarded | go_step | go_upon | (simp only []; go_at_K))
        ((with_reducible refine C4.mono ?_); rintro e w6 ⟨A6, c6, rfl, ho6, hu6⟩)
        have H6 := H5.made (hu6.gives (by simp))
        have ho56 := ho5.upd hu6 (by simp)
        clear C4 H5 hu6 ho5
        have hpp : ps.length = (pricesO L).length := by rw [hpo]
        have C5 := law20Nums w6 A5 A6 ps.length c5 c6 (pricesO L) (by rw [hpp]; exact ho56.rd) (by rw [hpp]; exact ho6.rd) (by have := hq.len; omega)
        rw [hpp] at C5
        repeat' ((fail_if_success (with_reducible refine stop_append rfl ?_)); (fail_if_success (with_reducible refine stop_copy rfl ?_)); first | go_values | go_skip | go_guarded | go_step | go_upon | (simp only []; go_at_K))
        ((with_reducible refine C5.mono ?_); rintro e w7 ⟨rfl, hu7⟩)
        have H7 := H6.made hu7
        clear C5 H6 hu7
        repeat' ((fail_if_success (with_reducible refine stop_append rfl ?_)); (fail_if_success (with_reducible refine stop_copy rfl ?_)); first | go_values | go_skip | go_guarded | go_step | go_upon | (simp only []; go_at_K))
        go_ret
        exact ⟨rfl, H7.upd.gives (by simp)⟩
    · obtain rfl : i = l.length := by omega
      have hil : ¬ ((l.length : Int) < (l.length : Int)) := by omega
      have hq := H.side.sd
      have hLn := H.ref.rd.len
      subst hLn
      have C1 := sideList wr g bo br 1 R L H.side
      repeat' ((fail_if_success (with_reducible refine stop_append rfl ?_)); (fail_if_success (with_reducible refine stop_copy rfl ?_)); first | go_values | go_skip | go_guarded | go_step | go_upon | (simp only []; go_at_K))
      ((with_reducible refine C1.mono ?_); rintro e w3 ⟨A3, c3, rfl, ho3, hu3⟩)
      have H3 := H.made (hu3.gives (by simp))
      clear C1 H hu3
      have C2 := law20Same w3 A3 A1 L.length c3 c1 L ⟨rfl, ho3.rd⟩ H3.ref.rd (by have := hq.len; omega)
      repeat' ((fail_if_success (with_reducible refine stop_append rfl ?_)); (fail_if_success (with_reducible refine stop_copy rfl ?_)); first | go_values | go_skip | go_guarded | go_step | go_upon | (simp only []; go_at_K))
      ((with_reducible refine C2.mono ?_); rintro e w4 ⟨rfl, hu4⟩)
      have H4 := H3.made hu4
      clear C2 H3 hu4 ho3
      have C3 := sidePrices w4 g bo br 1 R L H4.side
      repeat' ((fail_if_success (with_reducible refine stop_append rfl ?_)); (fail_if_success (with_reducible refine stop_copy rfl ?_)); first | go_values | go_skip | go_guarded | go_step | go_upon | (simp only []; go_at_K))
      ((with_reducible refine C3.mono ?_); rintro e w5 ⟨A5, c5, ps, rfl, ho5, hps, hpl, hu5⟩)
      have H5 := H4.made (hu5.gives (by simp))
      clear C3 H4 hu5
      have hpo := hps.prices hq.rising
      have C4 := refPrices w5 A1 L.length c1 L H5.ref.rd (by have := hq.len; omega)
      rw [hpo.symm] at ho5
      have hpl2 := pricesO_len L
      repeat' ((fail_if_success (with_reducible refine stop_append rfl ?_)); (fail_if_success (with_reducible refine stop_copy rfl ?_)); first | go_values | go_skip | go_guarded | go_step | go_upon | (simp only []; go_at_K))
      ((with_reducible refine C4.mono ?_); rintro e w6 ⟨A6, c6, rfl, ho6, hu6⟩)
      have H6 := H5.made (hu6.gives (by simp))
      have ho56 := ho5.upd hu6 (by simp)
      clear C4 H5 hu6 ho5
      have hpp : ps.length = (pricesO L).length := by rw [hpo]
      have C5 := law20Nums w6 A5 A6 ps.length c5 c6 (pricesO L) (by rw [hpp]; exact ho56.rd) (by rw [hpp]; exact ho6.rd) (by have := hq.len; omega)
      rw [hpp] at C5
      repeat' ((fail_if_success (with_reducible refine stop_append rfl ?_)); (fail_if_success (with_reducible refine stop_copy rfl ?_)); first | go_values | go_skip | go_guarded | go_step | go_upon | (simp only []; go_at_K))
      ((with_reducible refine C5.mono ?_); rintro e w7 ⟨rfl, hu7⟩)
      have H7 := H6.made hu7
      clear C5 H6 hu7
      repeat' ((fail_if_success (with_reducible refine stop_append rfl ?_)); (fail_if_success (with_reducible refine stop_copy rfl ?_)); first | go_values | go_skip | go_guarded | go_step | go_upon | (simp only []; go_at_K))
      go_ret
      exact ⟨rfl, H7.upd.gives (by simp)⟩
set_option maxRecDepth 100000 in
set_option maxHeartbeats 8000000 in
theorem sidePlays_Sell (w : World) (A : Option Addr) (n c : Nat) (l : List Dq) (hl : RdS Dq.cells 8 w A n l) (hw : ∀ d ∈ l, OrdWf d.o) :
    Calls Try.prog 4 #[.bool true, .slice A n c] w fun e w' => e = .returned (.bool true) ∧ Upd [] [] w w' := by
  obtain rfl := hl.len
  have HL := Lib.hid hl
  have HW := Lib.hid hw
  clear hl hw
  go_enter Try.func4, Try.ntmps4
  repeat' ((fail_if_success (with_reducible refine stop_append rfl ?_)); (fail_if_success (with_reducible refine stop_copy rfl ?_)); first | go_values | go_skip | go_guarded | go_step | go_upon | (simp only []; go_at_K))
  ((with_reducible refine (awake20 _).mono ?_); rintro e w1 ⟨rfl, hu1⟩)
  repeat' ((fail_if_success (with_reducible refine stop_append rfl ?_)); (fail_if_success (with_reducible refine stop_copy rfl ?_)); first | go_values | go_skip | go_guarded | go_step | go_upon | (simp only []; go_at_K))
  ((with_reducible refine (sideNew _ 2 (.inr rfl)).mono ?_); rintro e w2 ⟨g, bo, br, rfl, h2, hu2⟩)
  have H2 : Sp w w2 g bo br 2 [] [] none 0 0 := ⟨h2, RfL.none_ _ _, by simp [ablk], hu1.trans hu2⟩
  clear h2 hu1 hu2
  repeat' ((fail_if_success (with_reducible refine stop_append rfl ?_)); (fail_if_success (with_reducible refine stop_copy rfl ?_)); first | go_values | go_skip | go_guarded | go_step | go_upon | (simp only []; go_at_K))
  go_loopw [8, 9] (fun v8 v9 wr => ∃ (i : Nat) (R : List Rw) (L : List Ord) (A1 : Option Addr) (n1 c1 : Nat), i ≤ l.length ∧ i ≤ 300 ∧ v9 = .int .i64 (i : Int) ∧ v8 = .slice A1 n1 c1 ∧ Sp w wr g bo br 2 R L A1 n1 c1)
    (fun _ v9 _ => 300 - (intOf v9).toNat)
  case atStart => exact ⟨0, [], [], none, 0, 0, by omega, by omega, rfl, rfl, H2⟩
  case round =>
    clear H2
    obtain ⟨i, R, L, A1, n1, c1, hi, hi3, rfl, rfl, H⟩ := hrel
    by_cases hlt : i < l.length
    · by_cases h300 : i < 300
      · have hil : (i : Int) < (l.length : Int) := by omega
        have hi1 : (i : Int) < 300 := by omega
        have hw1 : IntKind.i64.wrap ((i : Int) + 1) = (i : Int) + 1 := by rw [IntKind.wrap_i64]; omega
        obtain ⟨ad, hA, p0', p1'⟩ := RdS.at_ Dq.cells_len (HL.out.upd H.upd (by simp)) hlt
        subst hA
        have p0 := p0' _ rfl
        have p1 := p1' 1 _ (by omega) rfl
        have p2 := p1' 2 _ (by omega) rfl
        have p3 := p1' 3 _ (by omega) rfl
        have p4 := p1' 4 _ (by omega) rfl
        have p5 := p1' 5 _ (by omega) rfl
        have p6 := p1' 6 _ (by omega) rfl
        have p7 := p1' 7 _ (by omega) rfl
        have hwo := HW.out _ (List.getElem_mem hlt)
        clear p0' p1'
        generalize l[i] = d at *
        obtain ⟨k, o⟩ := d
        simp only at p0 p1 p2 p3 p4 p5 p6 p7 hwo
        clear hlt
        have hD := Blk.new wr 42 #[.int .i64 k, .int .i64 o.id, .int .i64 o.client, .int .i64 o.side, .int .i64 o.price, .int .i64 o.qty, .bool o.peg, .int .i64 o.off]
        have UD : Upd [] [] wr (wr.alloc (.cells #[.int .i64 k, .int .i64 o.id, .int .i64 o.client, .int .i64 o.side, .int .i64 o.price, .int .i64 o.qty, .bool o.peg, .int .i64 o.off] 42)) := (Upd.refl _ _).alloc _
        have hgD := H.out wr.heap.size (Nat.le_refl _)
        have H1 := H.made UD
        obtain ⟨W, hW⟩ : ∃ W, wr.alloc (.cells #[.int .i64 k, .int .i64 o.id, .int .i64 o.client, .int .i64 o.side, .int .i64 o.price, .int .i64 o.qty, .bool o.peg, .int .i64 o.off] 42) = W := ⟨_, rfl⟩
        obtain ⟨b10, hb10⟩ : ∃ b, wr.heap.size = b := ⟨_, rfl⟩
        rw [hW] at hD H1
        rw [hb10] at hD hgD
        obtain ⟨⟨d0, d1, d2, d3, d4, d5, d6, d7⟩, -⟩ := hD.c8
        clear UD H
        by_cases hk0 : k = 0
        · have hkb : (k == 0) = true := by rw [hk0]; rfl
          clear hk0
          have C := sidePut_any W g bo br 2 R L H1.side o hwo
          rw [Ord.val] at C
          repeat' ((fail_if_success (with_reducible refine stop_append rfl ?_)); (fail_if_success (with_reducible refine stop_copy rfl ?_)); first | go_values | go_skip | go_guarded | go_step | go_upon | (simp only []; go_at_K))
          clear hW p0 p1 p2 p3 p4 p5 p6 p7 d0 d1 d2 d3 d4 d5 d6 d7 hb10
          ((with_reducible refine C.mono ?_); rintro e w3 ⟨R', rfl, hs3, hu3⟩)
          obtain ⟨hr3, ha3, U3⟩ := H1.turned hs3 hu3
          have hD3 := hD.upd hu3 hgD
          obtain ⟨⟨d0, d1, d2, d3, d4, d5, d6, d7⟩, -⟩ := hD3.c8
          have CR := law20Real w3 o
          rw [Ord.val] at CR
          have hris := H1.side.sd.rising
          have hlen := H1.side.sd.len
          clear C hD hgD H1 hu3
          repeat' ((fail_if_success (with_reducible refine stop_append rfl ?_)); (fail_if_success (with_reducible refine stop_copy rfl ?_)); first | go_values | go_skip | go_guarded | go_step | go_upon | (simp only []; go_at_K))
          ((with_reducible refine CR.mono ?_); rintro e w4 ⟨rfl, hu4⟩)
          have hD4 := hD3.upd hu4 (by simp)
          have C2 := refPut_any w4 A1 n1 c1 L (hr3.upd0 hu4) 2 o hris (by omega)
          have hs4 := hs3.upd0 hu4
          have U4 := U3.trans (hu4.up _)
          rw [Ord.val] at C2
          clear CR hD3 d0 d1 d2 d3 d4 d5 d6 d7 hris hlen hr3 hs3 U3 hu4
          repeat' ((fail_if_success (with_reducible refine stop_append rfl ?_)); (fail_if_success (with_reducible refine stop_copy rfl ?_)); first | go_values | go_skip | go_guarded | go_step | go_upon | (simp only []; go_at_K))
          ((with_reducible refine C2.mono ?_); rintro e w5 ⟨A2, n2, c2, rfl, h5⟩)
          have H5 := Sp.both hs4 ha3 U4 h5
          have hD5 := hD4.upd h5.2.1 (by simp)
          have hne := bne_self_eq_false (putE 2 o L)
          clear C2 hs4 ha3 U4 h5 hD4
          generalize putE 2 o L = pe at *

          have hq5 := H5.side.sd
          have hwp := hwo.price
          have C3 := sideBest _ g bo br _ _ _ H5.side
          clear hwo
          obtain ⟨LL, hLL⟩ : ∃ LL, putL 2 o L = LL := ⟨_, rfl⟩
          rw [hLL] at H5 hq5 C3
          clear hLL
          have hn5 := H5.ref.rd.len
          subst hn5
          repeat' ((fail_if_success (with_reducible refine stop_append rfl ?_)); (fail_if_success (with_reducible refine stop_copy rfl ?_)); first | go_values | go_skip | go_guarded | go_step | go_upon | (simp only []; go_at_K))
          ((with_reducible refine C3.mono ?_); rintro e w6 ⟨rfl, hu6⟩)
          clear C3
          have H6 := H5.made hu6
          have hD6 := hD5.upd hu6 (by simp)
          clear H5 hD5 hu6
          have CL : ∀ p : GU w6, Calls Try.prog 10 #[.pointer (some ⟨g, 0, none⟩)] p.w fun e w' => e = .returned (.int .i64 (LL.length : Int)) ∧ ∃ q : GU w6, w' = q.w :=
            fun p => (sideLen p.w g bo br _ _ LL (H6.side.upd0 p.u)).mono fun _ _ ⟨he, hw⟩ => ⟨he, p, hw.symm⟩
          have CA : ∀ p : GU w6, Calls Try.prog 21 #[.pointer (some ⟨g, 0, none⟩), .int .i64 o.price] p.w fun e w' => e = .returned (.int .i64 (sumAt o.price LL)) ∧ ∃ q : GU w6, w' = q.w :=
            fun p => p.call (sideAt p.w g bo br _ _ LL (H6.side.upd0 p.u) o.price hwp)
          have CR : ∀ p : GU w6, Calls Try.prog 22 #[.slice A2 LL.length c2, .int .i64 o.price] p.w fun e w' => e = .returned (.int .i64 (sumAt o.price LL)) ∧ ∃ q : GU w6, w' = q.w :=
            fun p => (refAt p.w A2 LL.length c2 LL (H6.ref.upd0 p.u).rd (fun o ho => by have := hq5.may o ho; simp only [mayO, decide_eq_true_eq] at this; omega) hq5.len o.price).mono fun _ _ ⟨he, hw⟩ => ⟨he, p, hw.symm⟩
          have d4 := fun p : GU w6 => (hD6.upd p.u (by simp)).cell 4
          simp only [List.getElem?_toArray, List.getElem?_cons_succ, List.getElem?_cons_zero] at d4
          have n1 := bne_self_eq_false (LL.length : Int)
          have n2 := bne_self_eq_false (sumAt o.price LL)
          have HQ := Lib.hid hq5
          clear hD6 hwp hq5
          generalize hsum : sumAt o.price LL = sm at *
          generalize o.price = px at *
          have hcs : LL = [] ∨ ∃ h0 : 0 < LL.length, bestO LL = LL[0].price ∧ LL.isEmpty = false := by
            cases LL with
            | nil => exact .inl rfl
            | cons x r => exact .inr ⟨by simp, rfl, rfl⟩
          clear hsum
          rcases hcs with h0 | ⟨h0, hbx, hex⟩
          · subst h0
            simp only [List.length_nil, bestO, List.isEmpty_nil] at *
            repeat' ((fail_if_success (with_reducible refine stop_append rfl ?_)); (fail_if_success (with_reducible refine stop_copy rfl ?_)); first | go_values | go_skip | go_guarded | go_step | go_upon | (simp only []; go_at_K))
            refine quiet_gu (by kernel_rfl) (by kernel_rfl) ?_
            repeat (go_big_quiet_step (first | exact CL _ | exact CA _ | exact CR _))
            refine wpQuiet_nil ?_
            rintro _ ⟨p, rfl⟩
            repeat' ((fail_if_success (with_reducible refine stop_append rfl ?_)); (fail_if_success (with_reducible refine stop_copy rfl ?_)); first | go_values | go_skip | go_guarded | go_step | go_upon | (simp only []; go_at_K))
            exact ⟨⟨i + 1, _, [], _, _, _, by omega, by omega, by simp, rfl, H6.made p.u⟩, by simp [intOf]; omega⟩
          · rw [hbx, hex]
            obtain ⟨ax, hax, -, -, -, q3, -⟩ := ord_at H6.ref.rd h0
            subst hax
            have q3' : w6.cell? ⟨ax.block, ax.off + 3, none⟩ = some (.int .i64 LL[0].price) := by simpa [Addr.add] using q3
            have q3p := fun p : GU w6 => p.u.cell q3' (by simp)
            have hg1 : decide ((0 : Int) < (LL.length : Int)) = true := decide_eq_true (by omega)
            have hg2 : decide (0 < LL.length) = true := decide_eq_true h0
            have hg3 : (0 : Int) < (LL.length : Int) := by omega
            have n3 := bne_self_eq_false LL[0].price
            clear q3 q3' hbx hex
            generalize LL[0].price = xp at *
            repeat' ((fail_if_success (with_reducible refine stop_append rfl ?_)); (fail_if_success (with_reducible refine stop_copy rfl ?_)); first | go_values | go_skip | go_guarded | go_step | go_upon | (simp only []; go_at_K))
            refine quiet_gu (by kernel_rfl) (by kernel_rfl) ?_
            repeat (go_big_quiet_step (first | exact CL _ | exact CA _ | exact CR _))
            refine wpQuiet_nil ?_
            rintro _ ⟨p, rfl⟩
            repeat' ((fail_if_success (with_reducible refine stop_append rfl ?_)); (fail_if_success (with_reducible refine stop_copy rfl ?_)); first | go_values | go_skip | go_guarded | go_step | go_upon | (simp only []; go_at_K))
            exact ⟨⟨i + 1, _, LL, _, _, _, by omega, by omega, by simp, rfl, H6.made p.u⟩, by simp [intOf]; omega⟩
        · by_cases hk1 : k = 1
          · have hkb : (k == 0) = false := beq_false_of_ne hk0
            have hkb1 : (k == 1) = true := by rw [hk1]; rfl
            clear hk0 hk1
            have C := sideCut_any W g bo br 2 R L H1.side o.id o.qty hwo.id
            repeat' ((fail_if_success (with_reducible refine stop_append rfl ?_)); (fail_if_success (with_reducible refine stop_copy rfl ?_)); first | go_values | go_skip | go_guarded | go_step | go_upon | (simp only []; go_at_K))
            clear hW p0 p1 p2 p3 p4 p5 p6 p7 d0 d1 d2 d3 d4 d5 d6 d7 hb10
            ((with_reducible refine C.mono ?_); rintro e w3 ⟨rfl, hs3, hu3⟩)
            obtain ⟨hr3, ha3, U3⟩ := H1.turned hs3 hu3
            have hD3 := hD.upd hu3 hgD
            obtain ⟨⟨d0, d1, d2, d3, d4, d5, d6, d7⟩, -⟩ := hD3.c8
            have C2 := refCut w3 A1 n1 c1 L hr3 H1.side.sd.ids (by have := H1.side.sd.len; omega) o.id o.qty
            clear C hD hgD H1 hu3
            repeat' ((fail_if_success (with_reducible refine stop_append rfl ?_)); (fail_if_success (with_reducible refine stop_copy rfl ?_)); first | go_values | go_skip | go_guarded | go_step | go_upon | (simp only []; go_at_K))
            ((with_reducible refine C2.mono ?_); rintro e w5 ⟨A2, n2, c2, rfl, h5⟩)
            have H5 := Sp.both hs3 ha3 U3 h5
            have hD5 := hD3.upd h5.2.1 (by simp)
            have hne := bne_self_eq_false (cutE o.id o.qty L)
            clear C2 hs3 ha3 U3 h5 hD3 d0 d1 d2 d3 d4 d5 d6 d7
            generalize cutE o.id o.qty L = pe at *

            have hq5 := H5.side.sd
            have hwp := hwo.price
            have C3 := sideBest _ g bo br _ _ _ H5.side
            clear hwo
            obtain ⟨LL, hLL⟩ : ∃ LL, cutL o.id o.qty L = LL := ⟨_, rfl⟩
            rw [hLL] at H5 hq5 C3
            clear hLL
            have hn5 := H5.ref.rd.len
            subst hn5
            repeat' ((fail_if_success (with_reducible refine stop_append rfl ?_)); (fail_if_success (with_reducible refine stop_copy rfl ?_)); first | go_values | go_skip | go_guarded | go_step | go_upon | (simp only []; go_at_K))
            ((with_reducible refine C3.mono ?_); rintro e w6 ⟨rfl, hu6⟩)
            clear C3
            have H6 := H5.made hu6
            have hD6 := hD5.upd hu6 (by simp)
            clear H5 hD5 hu6
            have CL : ∀ p : GU w6, Calls Try.prog 10 #[.pointer (some ⟨g, 0, none⟩)] p.w fun e w' => e = .returned (.int .i64 (LL.length : Int)) ∧ ∃ q : GU w6, w' = q.w :=
              fun p => (sideLen p.w g bo br _ _ LL (H6.side.upd0 p.u)).mono fun _ _ ⟨he, hw⟩ => ⟨he, p, hw.symm⟩
            have CA : ∀ p : GU w6, Calls Try.prog 21 #[.pointer (some ⟨g, 0, none⟩), .int .i64 o.price] p.w fun e w' => e = .returned (.int .i64 (sumAt o.price LL)) ∧ ∃ q : GU w6, w' = q.w :=
              fun p => p.call (sideAt p.w g bo br _ _ LL (H6.side.upd0 p.u) o.price hwp)
            have CR : ∀ p : GU w6, Calls Try.prog 22 #[.slice A2 LL.length c2, .int .i64 o.price] p.w fun e w' => e = .returned (.int .i64 (sumAt o.price LL)) ∧ ∃ q : GU w6, w' = q.w :=
              fun p => (refAt p.w A2 LL.length c2 LL (H6.ref.upd0 p.u).rd (fun o ho => by have := hq5.may o ho; simp only [mayO, decide_eq_true_eq] at this; omega) hq5.len o.price).mono fun _ _ ⟨he, hw⟩ => ⟨he, p, hw.symm⟩
            have d4 := fun p : GU w6 => (hD6.upd p.u (by simp)).cell 4
            simp only [List.getElem?_toArray, List.getElem?_cons_succ, List.getElem?_cons_zero] at d4
            have n1 := bne_self_eq_false (LL.length : Int)
            have n2 := bne_self_eq_false (sumAt o.price LL)
            have HQ := Lib.hid hq5
            clear hD6 hwp hq5
            generalize hsum : sumAt o.price LL = sm at *
            generalize o.price = px at *
            have hcs : LL = [] ∨ ∃ h0 : 0 < LL.length, bestO LL = LL[0].price ∧ LL.isEmpty = false := by
              cases LL with
              | nil => exact .inl rfl
              | cons x r => exact .inr ⟨by simp, rfl, rfl⟩
            clear hsum
            rcases hcs with h0 | ⟨h0, hbx, hex⟩
            · subst h0
              simp only [List.length_nil, bestO, List.isEmpty_nil] at *
              repeat' ((fail_if_success (with_reducible refine stop_append rfl ?_)); (fail_if_success (with_reducible refine stop_copy rfl ?_)); first | go_values | go_skip | go_guarded | go_step | go_upon | (simp only []; go_at_K))
              refine quiet_gu (by kernel_rfl) (by kernel_rfl) ?_
              repeat (go_big_quiet_step (first | exact CL _ | exact CA _ | exact CR _))
              refine wpQuiet_nil ?_
              rintro _ ⟨p, rfl⟩
              repeat' ((fail_if_success (with_reducible refine stop_append rfl ?_)); (fail_if_success (with_reducible refine stop_copy rfl ?_)); first | go_values | go_skip | go_guarded | go_step | go_upon | (simp only []; go_at_K))
              exact ⟨⟨i + 1, _, [], _, _, _, by omega, by omega, by simp, rfl, H6.made p.u⟩, by simp [intOf]; omega⟩
            · rw [hbx, hex]
              obtain ⟨ax, hax, -, -, -, q3, -⟩ := ord_at H6.ref.rd h0
              subst hax
              have q3' : w6.cell? ⟨ax.block, ax.off + 3, none⟩ = some (.int .i64 LL[0].price) := by simpa [Addr.add] using q3
              have q3p := fun p : GU w6 => p.u.cell q3' (by simp)
              have hg1 : decide ((0 : Int) < (LL.length : Int)) = true := decide_eq_true (by omega)
              have hg2 : decide (0 < LL.length) = true := decide_eq_true h0
              have hg3 : (0 : Int) < (LL.length : Int) := by omega
              have n3 := bne_self_eq_false LL[0].price
              clear q3 q3' hbx hex
              generalize LL[0].price = xp at *
              repeat' ((fail_if_success (with_reducible refine stop_append rfl ?_)); (fail_if_success (with_reducible refine stop_copy rfl ?_)); first | go_values | go_skip | go_guarded | go_step | go_upon | (simp only []; go_at_K))
              refine quiet_gu (by kernel_rfl) (by kernel_rfl) ?_
              repeat (go_big_quiet_step (first | exact CL _ | exact CA _ | exact CR _))
              refine wpQuiet_nil ?_
              rintro _ ⟨p, rfl⟩
              repeat' ((fail_if_success (with_reducible refine stop_append rfl ?_)); (fail_if_success (with_reducible refine stop_copy rfl ?_)); first | go_values | go_skip | go_guarded | go_step | go_upon | (simp only []; go_at_K))
              exact ⟨⟨i + 1, _, LL, _, _, _, by omega, by omega, by simp, rfl, H6.made p.u⟩, by simp [intOf]; omega⟩
          · have hkb : (k == 0) = false := beq_false_of_ne hk0
            have hkb1 : (k == 1) = false := beq_false_of_ne hk1
            clear hk0 hk1
            have C := sideDrop_any W g bo br 2 R L H1.side o.id hwo.id
            have C2 := fun (V : World) (hV : RfL V A1 n1 c1 L) => refDrop V A1 n1 c1 L hV H1.side.sd.ids (by have := H1.side.sd.len; omega) o.id
            rw [Ord.val] at C
            simp only [Ord.val] at C2
            generalize getO o.id L = z at *
            generalize (findO o.id L).isSome = fb at *
            repeat' ((fail_if_success (with_reducible refine stop_append rfl ?_)); (fail_if_success (with_reducible refine stop_copy rfl ?_)); first | go_values | go_skip | go_guarded | go_step | go_upon | (simp only []; go_at_K))
            clear hW p0 p1 p2 p3 p4 p5 p6 p7 d0 d1 d2 d3 d4 d5 d6 d7 hb10
            ((with_reducible refine C.mono ?_); rintro e w3 ⟨R', rfl, hs3, hu3⟩)
            obtain ⟨hr3, ha3, U3⟩ := H1.turned hs3 hu3
            have hD3 := hD.upd hu3 hgD
            have UB : Upd [] [] w3 (w3.alloc (.cells #[.int .i64 z.id, .int .i64 z.client, .int .i64 z.side, .int .i64 z.price, .int .i64 z.qty, .bool z.peg, .int .i64 z.off] 32)) := (Upd.refl _ _).alloc _
            have hB := Blk.new w3 32 #[.int .i64 z.id, .int .i64 z.client, .int .i64 z.side, .int .i64 z.price, .int .i64 z.qty, .bool z.peg, .int .i64 z.off]
            obtain ⟨W4, hW4⟩ : ∃ W, w3.alloc (.cells #[.int .i64 z.id, .int .i64 z.client, .int .i64 z.side, .int .i64 z.price, .int .i64 z.qty, .bool z.peg, .int .i64 z.off] 32) = W := ⟨_, rfl⟩
            obtain ⟨b17, hb17⟩ : ∃ b, w3.heap.size = b := ⟨_, rfl⟩
            rw [hW4] at UB hB
            rw [hb17] at hB
            have hr4 := hr3.upd0 UB
            have hs4 := hs3.upd0 UB
            have hD4 := hD3.upd UB (by simp)
            have U4 := U3.trans (UB.up _)
            obtain ⟨⟨d0, d1, d2, d3, d4, d5, d6, d7⟩, -⟩ := hD4.c8
            clear C hD hgD H1 hu3 hr3 hs3 hD3 U3 UB
            repeat' ((fail_if_success (with_reducible refine stop_append rfl ?_)); (fail_if_success (with_reducible refine stop_copy rfl ?_)); first | go_values | go_skip | go_guarded | go_step | go_upon | (simp only []; go_at_K))
            clear hW4 hb17
            ((with_reducible refine (C2 W4 hr4).mono ?_); rintro e w5 ⟨A2, n2, c2, rfl, h5⟩)
            have H5 := Sp.both hs4 ha3 U4 h5
            have hD5 := hD4.upd h5.2.1 (by simp)
            have hB5 := hB.upd h5.2.1 (by simp)
            clear C2 hs4 ha3 U4 h5 hD4 hB hr4 d0 d1 d2 d3 d4 d5 d6 d7
            have UB : Upd [] [] w5 (w5.alloc (.cells #[.int .i64 z.id, .int .i64 z.client, .int .i64 z.side, .int .i64 z.price, .int .i64 z.qty, .bool z.peg, .int .i64 z.off] 45)) := (Upd.refl _ _).alloc _
            have hE := Blk.new w5 45 #[.int .i64 z.id, .int .i64 z.client, .int .i64 z.side, .int .i64 z.price, .int .i64 z.qty, .bool z.peg, .int .i64 z.off]
            obtain ⟨W6, hW6⟩ : ∃ W, w5.alloc (.cells #[.int .i64 z.id, .int .i64 z.client, .int .i64 z.side, .int .i64 z.price, .int .i64 z.qty, .bool z.peg, .int .i64 z.off] 45) = W := ⟨_, rfl⟩
            obtain ⟨b20, hb20⟩ : ∃ b, w5.heap.size = b := ⟨_, rfl⟩
            rw [hW6] at UB hE
            rw [hb20] at hE
            have H6 := H5.made UB
            have hD6 := hD5.upd UB (by simp)
            have hB6 := hB5.upd UB (by simp)
            clear H5 hD5 hB5 UB
            have E := neSelfRefO
            have hne := bne_self_eq_false fb
            have CW : ∀ p : GU W6, Calls Try.prog 17 #[z.val] p.w fun e w' => e = .returned z.val ∧ ∃ q : GU W6, w' = q.w := fun p => p.call (law20Real p.w z)
            simp only [Ord.val] at CW
            have y0 := fun p : GU W6 => (hB6.upd p.u (by simp)).c7.1
            have x0 := fun p : GU W6 => (hE.upd p.u (by simp)).c7.1
            have y1 := fun p => (y0 p).1
            have y2 := fun p => (y0 p).2.1
            have y3 := fun p => (y0 p).2.2.1
            have y4 := fun p => (y0 p).2.2.2.1
            have y5 := fun p => (y0 p).2.2.2.2.1
            have y6 := fun p => (y0 p).2.2.2.2.2.1
            have y7 := fun p => (y0 p).2.2.2.2.2.2
            have x1 := fun p => (x0 p).1
            have x2 := fun p => (x0 p).2.1
            have x3 := fun p => (x0 p).2.2.1
            have x4 := fun p => (x0 p).2.2.2.1
            have x5 := fun p => (x0 p).2.2.2.2.1
            have x6 := fun p => (x0 p).2.2.2.2.2.1
            have x7 := fun p => (x0 p).2.2.2.2.2.2
            clear y0 x0 hB6 hE
            repeat' ((fail_if_success (with_reducible refine stop_append rfl ?_)); (fail_if_success (with_reducible refine stop_copy rfl ?_)); first | go_values | go_skip | go_guarded | go_step | go_upon | (simp only []; go_at_K))
            refine quiet_gu (by kernel_rfl) (by kernel_rfl) ?_
            repeat (go_big_quiet_step (first | exact CW _))
            refine wpQuiet_nil ?_
            rintro _ ⟨p, rfl⟩
            clear hW6 hb20
            have H5 := H6.made p.u
            have hD5 := hD6.upd p.u (by simp)
            clear H6 hD6 CW E y1 y2 y3 y4 y5 y6 y7 x1 x2 x3 x4 x5 x6 x7
            generalize p.w = w7 at *
            have hq5 := H5.side.sd
            have hwp := hwo.price
            have C3 := sideBest _ g bo br _ _ _ H5.side
            clear hwo
            obtain ⟨LL, hLL⟩ : ∃ LL, dropO o.id L = LL := ⟨_, rfl⟩
            rw [hLL] at H5 hq5 C3
            clear hLL
            have hn5 := H5.ref.rd.len
            subst hn5
            repeat' ((fail_if_success (with_reducible refine stop_append rfl ?_)); (fail_if_success (with_reducible refine stop_copy rfl ?_)); first | go_values | go_skip | go_guarded | go_step | go_upon | (simp only []; go_at_K))
            ((with_reducible refine C3.mono ?_); rintro e w6 ⟨rfl, hu6⟩)
            clear C3
            have H6 := H5.made hu6
            have hD6 := hD5.upd hu6 (by simp)
            clear H5 hD5 hu6
            have CL : ∀ p : GU w6, Calls Try.prog 10 #[.pointer (some ⟨g, 0, none⟩)] p.w fun e w' => e = .returned (.int .i64 (LL.length : Int)) ∧ ∃ q : GU w6, w' = q.w :=
              fun p => (sideLen p.w g bo br _ _ LL (H6.side.upd0 p.u)).mono fun _ _ ⟨he, hw⟩ => ⟨he, p, hw.symm⟩
            have CA : ∀ p : GU w6, Calls Try.prog 21 #[.pointer (some ⟨g, 0, none⟩), .int .i64 o.price] p.w fun e w' => e = .returned (.int .i64 (sumAt o.price LL)) ∧ ∃ q : GU w6, w' = q.w :=
              fun p => p.call (sideAt p.w g bo br _ _ LL (H6.side.upd0 p.u) o.price hwp)
            have CR : ∀ p : GU w6, Calls Try.prog 22 #[.slice A2 LL.length c2, .int .i64 o.price] p.w fun e w' => e = .returned (.int .i64 (sumAt o.price LL)) ∧ ∃ q : GU w6, w' = q.w :=
              fun p => (refAt p.w A2 LL.length c2 LL (H6.ref.upd0 p.u).rd (fun o ho => by have := hq5.may o ho; simp only [mayO, decide_eq_true_eq] at this; omega) hq5.len o.price).mono fun _ _ ⟨he, hw⟩ => ⟨he, p, hw.symm⟩
            have d4 := fun p : GU w6 => (hD6.upd p.u (by simp)).cell 4
            simp only [List.getElem?_toArray, List.getElem?_cons_succ, List.getElem?_cons_zero] at d4
            have n1 := bne_self_eq_false (LL.length : Int)
            have n2 := bne_self_eq_false (sumAt o.price LL)
            have HQ := Lib.hid hq5
            clear hD6 hwp hq5
            generalize hsum : sumAt o.price LL = sm at *
            generalize o.price = px at *
            have hcs : LL = [] ∨ ∃ h0 : 0 < LL.length, bestO LL = LL[0].price ∧ LL.isEmpty = false := by
              cases LL with
              | nil => exact .inl rfl
              | cons x r => exact .inr ⟨by simp, rfl, rfl⟩
            clear hsum
            rcases hcs with h0 | ⟨h0, hbx, hex⟩
            · subst h0
              simp only [List.length_nil, bestO, List.isEmpty_nil] at *
              repeat' ((fail_if_success (with_reducible refine stop_append rfl ?_)); (fail_if_success (with_reducible refine stop_copy rfl ?_)); first | go_values | go_skip | go_guarded | go_step | go_upon | (simp only []; go_at_K))
              refine quiet_gu (by kernel_rfl) (by kernel_rfl) ?_
              repeat (go_big_quiet_step (first | exact CL _ | exact CA _ | exact CR _))
              refine wpQuiet_nil ?_
              rintro _ ⟨p, rfl⟩
              repeat' ((fail_if_success (with_reducible refine stop_append rfl ?_)); (fail_if_success (with_reducible refine stop_copy rfl ?_)); first | go_values | go_skip | go_guarded | go_step | go_upon | (simp only []; go_at_K))
              exact ⟨⟨i + 1, _, [], _, _, _, by omega, by omega, by simp, rfl, H6.made p.u⟩, by simp [intOf]; omega⟩
            · rw [hbx, hex]
              obtain ⟨ax, hax, -, -, -, q3, -⟩ := ord_at H6.ref.rd h0
              subst hax
              have q3' : w6.cell? ⟨ax.block, ax.off + 3, none⟩ = some (.int .i64 LL[0].price) := by simpa [Addr.add] using q3
              have q3p := fun p : GU w6 => p.u.cell q3' (by simp)
              have hg1 : decide ((0 : Int) < (LL.length : Int)) = true := decide_eq_true (by omega)
              have hg2 : decide (0 < LL.length) = true := decide_eq_true h0
              have hg3 : (0 : Int) < (LL.length : Int) := by omega
              have n3 := bne_self_eq_false LL[0].price
              clear q3 q3' hbx hex
              generalize LL[0].price = xp at *
              repeat' ((fail_if_success (with_reducible refine stop_append rfl ?_)); (fail_if_success (with_reducible refine stop_copy rfl ?_)); first | go_values | go_skip | go_guarded | go_step | go_upon | (simp only []; go_at_K))
              refine quiet_gu (by kernel_rfl) (by kernel_rfl) ?_
              repeat (go_big_quiet_step (first | exact CL _ | exact CA _ | exact CR _))
              refine wpQuiet_nil ?_
              rintro _ ⟨p, rfl⟩
              repeat' ((fail_if_success (with_reducible refine stop_append rfl ?_)); (fail_if_success (with_reducible refine stop_copy rfl ?_)); first | go_values | go_skip | go_guarded | go_step | go_upon | (simp only []; go_at_K))
              exact ⟨⟨i + 1, _, LL, _, _, _, by omega, by omega, by simp, rfl, H6.made p.u⟩, by simp [intOf]; omega⟩
      · obtain rfl : i = 300 := by omega
        have hil : (300 : Int) < (l.length : Int) := by omega
        have hq := H.side.sd
        have hLn := H.ref.rd.len
        subst hLn
        have C1 := sideList wr g bo br 2 R L H.side
        repeat' ((fail_if_success (with_reducible refine stop_append rfl ?_)); (fail_if_success (with_reducible refine stop_copy rfl ?_)); first | go_values | go_skip | go_guarded | go_step | go_upon | (simp only []; go_at_K))
        ((with_reducible refine C1.mono ?_); rintro e w3 ⟨A3, c3, rfl, ho3, hu3⟩)
        have H3 := H.made (hu3.gives (by simp))
        clear C1 H hu3
        have C2 := law20Same w3 A3 A1 L.length c3 c1 L ⟨rfl, ho3.rd⟩ H3.ref.rd (by have := hq.len; omega)
        repeat' ((fail_if_success (with_reducible refine stop_append rfl ?_)); (fail_if_success (with_reducible refine stop_copy rfl ?_)); first | go_values | go_skip | go_guarded | go_step | go_upon | (simp only []; go_at_K))
        ((with_reducible refine C2.mono ?_); rintro e w4 ⟨rfl, hu4⟩)
        have H4 := H3.made hu4
        clear C2 H3 hu4 ho3
        have C3 := sidePrices w4 g bo br 2 R L H4.side
        repeat' ((fail_if_success (with_reducible refine stop_append rfl ?_)); (fail_if_success (with_reducible refine stop_copy rfl ?_)); first | go_values | go_skip | go_guarded | go_step | go_upon | (simp only []; go_at_K))
        ((with_reducible refine C3.mono ?_); rintro e w5 ⟨A5, c5, ps, rfl, ho5, hps, hpl, hu5⟩)
        have H5 := H4.made (hu5.gives (by simp))
        clear C3 H4 hu5
        have hpo := hps.prices hq.rising
        have C4 := refPrices w5 A1 L.length c1 L H5.ref.rd (by have := hq.len; omega)
        rw [hpo.symm] at ho5
        have hpl2 := pricesO_len L
        repeat' ((fail_if_success (with_reducible refine stop_append rfl ?_)); (fail_if_success (with_reducible refine stop_copy rfl ?_)); first | go_values | go_skip | go_guarded | go_step | go_upon | (simp only []; go_at_K))
        ((with_reducible refine C4.mono ?_); rintro e w6 ⟨A6, c6, rfl, ho6, hu6⟩)
        have H6 := H5.made (hu6.gives (by simp))
        have ho56 := ho5.upd hu6 (by simp)
        clear C4 H5 hu6 ho5
        have hpp : ps.length = (pricesO L).length := by rw [hpo]
        have C5 := law20Nums w6 A5 A6 ps.length c5 c6 (pricesO L) (by rw [hpp]; exact ho56.rd) (by rw [hpp]; exact ho6.rd) (by have := hq.len; omega)
        rw [hpp] at C5
        repeat' ((fail_if_success (with_reducible refine stop_append rfl ?_)); (fail_if_success (with_reducible refine stop_copy rfl ?_)); first | go_values | go_skip | go_guarded | go_step | go_upon | (simp only []; go_at_K))
        ((with_reducible refine C5.mono ?_); rintro e w7 ⟨rfl, hu7⟩)
        have H7 := H6.made hu7
        clear C5 H6 hu7
        repeat' ((fail_if_success (with_reducible refine stop_append rfl ?_)); (fail_if_success (with_reducible refine stop_copy rfl ?_)); first | go_values | go_skip | go_guarded | go_step | go_upon | (simp only []; go_at_K))
        go_ret
        exact ⟨rfl, H7.upd.gives (by simp)⟩
    · obtain rfl : i = l.length := by omega
      have hil : ¬ ((l.length : Int) < (l.length : Int)) := by omega
      have hq := H.side.sd
      have hLn := H.ref.rd.len
      subst hLn
      have C1 := sideList wr g bo br 2 R L H.side
      repeat' ((fail_if_success (with_reducible refine stop_append rfl ?_)); (fail_if_success (with_reducible refine stop_copy rfl ?_)); first | go_values | go_skip | go_guarded | go_step | go_upon | (simp only []; go_at_K))
      ((with_reducible refine C1.mono ?_); rintro e w3 ⟨A3, c3, rfl, ho3, hu3⟩)
      have H3 := H.made (hu3.gives (by simp))
      clear C1 H hu3
      have C2 := law20Same w3 A3 A1 L.length c3 c1 L ⟨rfl, ho3.rd⟩ H3.ref.rd (by have := hq.len; omega)
      repeat' ((fail_if_success (with_reducible refine stop_append rfl ?_)); (fail_if_success (with_reducible refine stop_copy rfl ?_)); first | go_values | go_skip | go_guarded | go_step | go_upon | (simp only []; go_at_K))
      ((with_reducible refine C2.mono ?_); rintro e w4 ⟨rfl, hu4⟩)
      have H4 := H3.made hu4
      clear C2 H3 hu4 ho3
      have C3 := sidePrices w4 g bo br 2 R L H4.side
      repeat' ((fail_if_success (with_reducible refine stop_append rfl ?_)); (fail_if_success (with_reducible refine stop_copy rfl ?_)); first | go_values | go_skip | go_guarded | go_step | go_upon | (simp only []; go_at_K))
      ((with_reducible refine C3.mono ?_); rintro e w5 ⟨A5, c5, ps, rfl, ho5, hps, hpl, hu5⟩)
      have H5 := H4.made (hu5.gives (by simp))
      clear C3 H4 hu5
      have hpo := hps.prices hq.rising
      have C4 := refPrices w5 A1 L.length c1 L H5.ref.rd (by have := hq.len; omega)
      rw [hpo.symm] at ho5
      have hpl2 := pricesO_len L
      repeat' ((fail_if_success (with_reducible refine stop_append rfl ?_)); (fail_if_success (with_reducible refine stop_copy rfl ?_)); first | go_values | go_skip | go_guarded | go_step | go_upon | (simp only []; go_at_K))
      ((with_reducible refine C4.mono ?_); rintro e w6 ⟨A6, c6, rfl, ho6, hu6⟩)
      have H6 := H5.made (hu6.gives (by simp))
      have ho56 := ho5.upd hu6 (by simp)
      clear C4 H5 hu6 ho5
      have hpp : ps.length = (pricesO L).length := by rw [hpo]
      have C5 := law20Nums w6 A5 A6 ps.length c5 c6 (pricesO L) (by rw [hpp]; exact ho56.rd) (by rw [hpp]; exact ho6.rd) (by have := hq.len; omega)
      rw [hpp] at C5
      repeat' ((fail_if_success (with_reducible refine stop_append rfl ?_)); (fail_if_success (with_reducible refine stop_copy rfl ?_)); first | go_values | go_skip | go_guarded | go_step | go_upon | (simp only []; go_at_K))
      ((with_reducible refine C5.mono ?_); rintro e w7 ⟨rfl, hu7⟩)
      have H7 := H6.made hu7
      clear C5 H6 hu7
      repeat' ((fail_if_success (with_reducible refine stop_append rfl ?_)); (fail_if_success (with_reducible refine stop_copy rfl ?_)); first | go_values | go_skip | go_guarded | go_step | go_upon | (simp only []; go_at_K))
      go_ret
      exact ⟨rfl, H7.upd.gives (by simp)⟩
theorem sidePlays_any (w : World) (sell : Bool) (A : Option Addr) (n c : Nat) (l : List Dq) (hl : RdS Dq.cells 8 w A n l) (hw : ∀ d ∈ l, OrdWf d.o) :
    Calls Try.prog 4 #[.bool sell, .slice A n c] w fun e w' => e = .returned (.bool true) ∧ Upd [] [] w w' := by
  cases sell
  · exact sidePlays_Buy w A n c l hl hw
  · exact sidePlays_Sell w A n c l hl hw
end Go.Proofs.Ytdmmpcdilkcfjaa
