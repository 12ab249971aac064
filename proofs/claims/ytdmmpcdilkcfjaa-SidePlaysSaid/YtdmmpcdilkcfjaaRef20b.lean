/- agioref20: Put. -/
import Derived.Test.YtdmmpcdilkcfjaaRef20
namespace Go.Proofs.Ytdmmpcdilkcfjaa
open Go.RowKit Agio

theorem flat_take {α β : Type} {f : α → List β} {s : Nat} (hs : ∀ x, (f x).length = s) (l : List α) (k : Nat) : (l.flatMap f).take (k * s) = (l.take k).flatMap f := by
  induction l generalizing k with
  | nil => simp
  | cons x r ih =>
    cases k with
    | zero => simp
    | succ k =>
      rw [List.flatMap_cons, List.take_succ_cons, List.flatMap_cons, Nat.add_mul, Nat.one_mul, Nat.add_comm, List.take_append, hs, Nat.add_sub_cancel_left, List.take_of_length_le (by rw [hs]; omega), ih]
theorem flat_drop {α β : Type} {f : α → List β} {s : Nat} (hs : ∀ x, (f x).length = s) (l : List α) (k : Nat) : (l.flatMap f).drop (k * s) = (l.drop k).flatMap f := by
  induction l generalizing k with
  | nil => simp
  | cons x r ih =>
    cases k with
    | zero => simp
    | succ k =>
      rw [List.flatMap_cons, List.drop_succ_cons, Nat.add_mul, Nat.one_mul, Nat.add_comm, List.drop_append, hs, Nat.add_sub_cancel_left, List.drop_eq_nil_of_le (by rw [hs]; omega), List.nil_append, ih]
/-- What the document's operations on lists leave: another list, in new memory, or the one that was there. -/
def RefL (w : World) (A : Option Addr) (w' : World) (A' : Option Addr) (n' c' : Nat) (L' : List Ord) : Prop :=
  RfL w' A' n' c' L' ∧ Upd [] [] w w' ∧ ∀ k ∈ ablk A', k ∈ ablk A ∨ w.heap.size ≤ k
theorem RefL.same {w w' : World} {A : Option Addr} {n c : Nat} {L : List Ord} (h : RfL w A n c L) (hu : Upd [] [] w w') : RefL w A w' A n c L := ⟨h.upd0 hu, hu, fun _ hk => .inl hk⟩

section
variable (w : World) (A : Option Addr) (n c : Nat) (L : List Ord) (h : RfL w A n c L) (s : Int) (o : Ord)
include h
set_option maxRecDepth 100000 in
set_option maxHeartbeats 4000000 in
theorem refPut_arg (hm : mayO s o = false) : Calls Try.prog 16 #[.slice A n c, .int .i64 s, o.val] w fun e w' => e = .returned (.tuple #[.slice A n c, .int .i64 1]) ∧ RefL w A w' A n c L := by
  have hB := Blk.new w 45 #[.int .i64 o.id, .int .i64 o.client, .int .i64 o.side, .int .i64 o.price, .int .i64 o.qty, .bool o.peg, .int .i64 o.off]
  have U : Upd [] [] w (w.alloc (.cells #[.int .i64 o.id, .int .i64 o.client, .int .i64 o.side, .int .i64 o.price, .int .i64 o.qty, .bool o.peg, .int .i64 o.off] 45)) := (Upd.refl _ _).alloc _
  have HF : ∀ ob, RefL w A (w.alloc ob) A n c L := fun ob => RefL.same h ((Upd.refl [] w).alloc ob)
  have hm' : ¬ (o.side = s ∧ 1 ≤ o.id ∧ 1 ≤ o.price ∧ o.price ≤ 1073741824 ∧ 1 ≤ o.qty ∧ o.qty ≤ 1073741824) := by simpa [mayO] using hm
  obtain ⟨⟨p0, p1, p2, p3, p4, p5, p6⟩, -⟩ := hB.c7
  have HM := Lib.hid hm'
  clear hm hm' U hB h
  rw [Ord.val]
  generalize o.id = x0 at *
  generalize o.client = x1 at *
  generalize o.side = x2 at *
  generalize o.price = x3 at *
  generalize o.qty = x4 at *
  generalize o.peg = x5 at *
  generalize o.off = x6 at *
  go_enter Try.func16, Try.ntmps16
  repeat' ((fail_if_success (with_reducible refine stop_append rfl ?_)); (fail_if_success (with_reducible refine stop_copy rfl ?_)); first | go_values | go_skip | go_guarded | go_step | go_upon | (simp only []; go_at_K))
  all_goals first
    | (exfalso; refine HM.out ?_; omega)
    | (go_ret2; exact ⟨rfl, HF _⟩)

set_option maxRecDepth 100000 in
set_option maxHeartbeats 4000000 in
theorem refPut_may (hm : mayO s o = true) (hr : Rising s L) (hl : L.length ≤ 1000) : Calls Try.prog 16 #[.slice A n c, .int .i64 s, o.val] w fun e w' =>
    ∃ A' n' c', e = .returned (.tuple #[.slice A' n' c', .int .i64 (putE s o L)]) ∧ RefL w A w' A' n' c' (putL s o L) := by
  obtain ⟨hc, -⟩ | ⟨-, hsd, hid, hpr, hpr2, hqt, hqt2⟩ : _ ∨ _ := by
    have := mayO_cases s o
    rw [hm] at this
    exact this
  · cases hc
  have hn := h.rd.len
  subst hn
  have hB := Blk.new w 45 #[.int .i64 o.id, .int .i64 o.client, .int .i64 o.side, .int .i64 o.price, .int .i64 o.qty, .bool o.peg, .int .i64 o.off]
  have U : Upd [] [] w (w.alloc (.cells #[.int .i64 o.id, .int .i64 o.client, .int .i64 o.side, .int .i64 o.price, .int .i64 o.qty, .bool o.peg, .int .i64 o.off] 45)) := (Upd.refl _ _).alloc _
  rw [Ord.val]
  obtain ⟨W, eW⟩ : ∃ W, w.alloc (.cells #[.int .i64 o.id, .int .i64 o.client, .int .i64 o.side, .int .i64 o.price, .int .i64 o.qty, .bool o.peg, .int .i64 o.off] 45) = W := ⟨_, rfl⟩
  rw [eW] at hB U
  have hF := h.upd0 U
  have CF := refFind W A L.length c L hF.rd (by omega) o.id
  obtain ⟨⟨p0, p1, p2, p3, p4, p5, p6⟩, -⟩ := hB.c7
  have HM := Lib.hid hm
  have hsb : (o.side != s) = false := by rw [hsd]; exact bne_self_eq_false _
  have hL256 : decide ((256 : Int) ≤ (L.length : Int)) = decide (256 ≤ L.length) := decide_eq_decide.2 (by omega)
  clear hm hsd
  obtain ⟨b0, hb0⟩ : ∃ b, w.heap.size = b := ⟨_, rfl⟩
  rw [hb0] at p0 p1 p2 p3 p4 p5 p6 hB
  go_enter Try.func16, Try.ntmps16
  repeat' ((fail_if_success (with_reducible refine stop_append rfl ?_)); (fail_if_success (with_reducible refine stop_copy rfl ?_)); first | go_values | go_skip | go_guarded | go_step | go_upon | (simp only []; go_at_K))
  ((with_reducible refine CF.mono ?_); rintro e w1 ⟨rfl, rfl⟩)
  by_cases hf : idxO o.id L < L.length
  · have hfi : findI o.id L = (idxO o.id L : Int) := if_pos hf
    have he : putE s o L = 7 := by rw [putE, if_pos HM.out, findO_isSome, if_pos (by simpa using hf)]
    have hfd : decide ((0 : Int) ≤ (idxO o.id L : Int)) = true := decide_eq_true (by omega)
    have hx : putL s o L = L := by rw [putL, if_neg (by rw [he]; decide)]
    rw [hfi]
    have HE := Lib.hid he
    have HX := Lib.hid hx
    have HF := Lib.hid (RefL.same h U)
    clear CF hfi he hx h hF hf hr hb0 eW hB p0 p1 p2 p3 p4 p5 p6 hL256
    repeat' ((fail_if_success (with_reducible refine stop_append rfl ?_)); (fail_if_success (with_reducible refine stop_copy rfl ?_)); first | go_values | go_skip | go_guarded | go_step | go_upon | (simp only []; go_at_K))
    go_ret2
    exact ⟨A, _, c, by rw [HE.out]; rfl, by rw [HX.out]; exact HF.out⟩
  · have hfi : findI o.id L = -1 := if_neg hf
    have hfn : findO o.id L = none := by have := findO_isSome o.id L; simpa [hf] using this
    rw [hfi]
    by_cases h256 : 256 ≤ L.length
    · have he : putE s o L = 5 := by rw [putE, if_pos HM.out, hfn, if_neg (by simp), if_pos h256]
      have hx : putL s o L = L := by rw [putL, if_neg (by rw [he]; decide)]
      have h2 : decide ((256 : Int) ≤ (L.length : Int)) = true := decide_eq_true (by omega)
      have HE := Lib.hid he
      have HX := Lib.hid hx
      have HF := Lib.hid (RefL.same h U)
      clear CF hfi he hx h hF hf hr hb0 eW hB p0 p1 p2 p3 p4 p5 p6 hL256 hfn h256
      repeat' ((fail_if_success (with_reducible refine stop_append rfl ?_)); (fail_if_success (with_reducible refine stop_copy rfl ?_)); first | go_values | go_skip | go_guarded | go_step | go_upon | (simp only []; go_at_K))
      go_ret2
      exact ⟨A, _, c, by rw [HE.out]; rfl, by rw [HX.out]; exact HF.out⟩
    · have he : putE s o L = 0 := putE_zero.2 ⟨HM.out, hfn, by omega⟩
      have hx : putL s o L = insO s o L := by rw [putL, if_pos he]
      have h2 : decide ((256 : Int) ≤ (L.length : Int)) = false := decide_eq_false (by omega)
      have HE := Lib.hid he
      have HX := Lib.hid hx
      have hll : L.length < 256 := by omega
      clear CF hfi he hx hf hL256 hfn p0 p1 p2 p3 p4 p5 p6 h256 hl
      repeat' ((fail_if_success (with_reducible refine stop_append rfl ?_)); (fail_if_success (with_reducible refine stop_copy rfl ?_)); first | go_values | go_skip | go_guarded | go_step | go_upon | (simp only []; go_at_K))
      go_loopw [8] (fun v8 wr => ∃ a : Nat, a ≤ L.length ∧ v8 = .int .i64 (a : Int) ∧ (∀ j (hj : j < L.length), a ≤ j → better s o.price L[j].price = true) ∧ Upd [] [] W wr) (fun v8 _ => (intOf v8).toNat)
      case atStart => exact ⟨L.length, by omega, rfl, fun j hj hji => by omega, Upd.refl _ _⟩
      case round =>
        obtain ⟨a, ha, rfl, hb, V⟩ := hrel
        have hBr := hB.upd V (by simp)
        have hFr := hF.upd0 V
        have UV := U.trans V
        clear hB hF
        by_cases hbet : ∃ k, a = k + 1 ∧ ∃ hk : k < L.length, better s o.price L[k].price = true
        · obtain ⟨k, rfl, hk, hbt⟩ := hbet
          have h0 : decide ((0 : Int) < ((k + 1 : Nat) : Int)) = true := decide_eq_true (by omega)
          have hb' : ∀ j (hj : j < L.length), k ≤ j → better s o.price L[j].price = true := fun j hj hkj => by
            by_cases e : j = k
            · subst e; exact hbt
            · exact hb j hj (by omega)
          have hw1 : IntKind.i64.wrap (((k + 1 : Nat) : Int) - 1) = (k : Int) := by rw [IntKind.wrap_i64]; omega
          have hkl : (k : Int) < (L.length : Int) := by omega
          have C := fun N => refBetter (wr.drewN N) s o.price L[k].price
          rw [hbt] at C
          obtain ⟨ad, rfl, -, -, -, a3, -⟩ := ord_at hFr.rd hk
          have a3' := fun N => ((Upd.refl [] wr).drewN N).cell a3 (by simp)
          have q3' := fun N => (hBr.drewN N).cell 3
          simp only [List.getElem?_toArray, List.getElem?_cons_succ, List.getElem?_cons_zero] at q3'
          clear hb hbt a3 hBr hFr
          generalize L[k].price = y at *
          generalize o.price = z at *
          repeat' ((fail_if_success (with_reducible refine stop_append rfl ?_)); (fail_if_success (with_reducible refine stop_copy rfl ?_)); first | go_values | go_skip | go_guarded | go_step | go_upon | (simp only []; go_at_K))
          go_quiet ((go_at_call 49; with_reducible exact quiet_eq (C _)))
          repeat' ((fail_if_success (with_reducible refine stop_append rfl ?_)); (fail_if_success (with_reducible refine stop_copy rfl ?_)); first | go_values | go_skip | go_guarded | go_step | go_upon | (simp only []; go_at_K))
          exact ⟨⟨k, by omega, by simp, hb', V.drewN _⟩, by simp [intOf]⟩
        · have hx := insO_at hr ha hb (fun j hj e => by
            cases hbt : better s o.price L[j].price
            · rfl
            · exact absurd ⟨j, e.symm, hj, hbt⟩ hbet)
          have HI := Lib.hid hx
          have hRd := hFr
          have hcap := hFr.cap
          have hac : (a : Int) ≤ (c : Int) := by omega
          have haL : (a : Int) ≤ (L.length : Int) := by omega
          have hLc : (L.length : Int) ≤ (c : Int) := by omega
          have hlen := ords_one L
          have ha0 : (0 : Int) ≤ (a : Int) := by omega
          rcases Nat.eq_zero_or_pos a with h0 | h0
          · have hgt : decide ((0 : Int) < (a : Int)) = false := decide_eq_false (by omega)
            have hgt' : decide (0 < a) = false := decide_eq_false (by omega)
            clear hb hFr hbet hx h0
            repeat' ((fail_if_success (with_reducible refine stop_append rfl ?_)); (fail_if_success (with_reducible refine stop_copy rfl ?_)); first | go_values | go_skip | go_guarded | go_step | go_upon | (simp only []; go_at_K))
            go_quiet (fail)
            have hRq := hRd.upd0 ((Upd.refl [] wr).drewN nq)
            have hBq := hBr.drewN nq
            have Uq := UV.drewN nq
            clear hRd hBr UV
            generalize wr.drewN nq = W1 at *
            repeat' ((fail_if_success (with_reducible refine stop_append rfl ?_)); (fail_if_success (with_reducible refine stop_copy rfl ?_)); first | go_values | go_skip | go_guarded | go_step | go_upon | (simp only []; go_at_K))
            have hr0 := (hRq.rd.rd.take (k := a) (by omega)).alloc (.cells #[] 45)
            have U1 : Upd [] (ablk (some ⟨W1.heap.size, 0, none⟩)) W1 (W1.alloc (.cells #[] 45)) := ((Upd.refl [] W1).alloc _).gives (by intro k hk; simp [ablk] at hk; subst hk; exact .inr (Nat.le_refl _))
            refine wpList_app _ rfl _ _ 40 rfl 45 Try.underlying40 infoRefO rfl (by decide) (Own.made 45 7 W1) rfl hr0 rfl (fun u hu => hlen u (List.mem_of_mem_take hu)) (by unfold maxLen; omega) (by omega) ?_
            intro A6 c6 w6 ho6 hu6
            have U6 := U1.trans hu6
            have hr7 := Rd.cut (hRq.rd.rd.upd U6 (by simp)) (k := a) (cap := c) (by omega) hcap
            have hB6 := hBq.upd U6 (by simp)
            obtain ⟨⟨p0, p1, p2, p3, p4, p5, p6⟩, -⟩ := hB6.c7
            rw [Nat.zero_add] at ho6
            clear hr0 U1 hu6
            repeat' ((fail_if_success (with_reducible refine stop_append rfl ?_)); (fail_if_success (with_reducible refine stop_copy rfl ?_)); first | go_values | go_skip | go_guarded | go_step | go_upon | (simp only []; go_at_K))
            refine wpList_push rfl _ _ 40 rfl 45 Try.underlying40 infoRefO rfl (by decide) ho6 rfl _ rfl (news := [.int .i64 o.id, .int .i64 o.client, .int .i64 o.side, .int .i64 o.price, .int .i64 o.qty, .bool o.peg, .int .i64 o.off]) rfl rfl rfl (by unfold maxLen; omega) (by omega) ?_
            intro A7 c7 w7 ho7 hu7
            have U7 := U6.trans hu7
            have hr8 := hr7.upd hu7 (fun k hk hm => by
              rw [ablk_if] at hk
              rcases U6.fresh k hm with h1 | h1
              · cases h1
              · have := hRq.lt k hk; omega)
            clear hr7 hu7 p0 p1 p2 p3 p4 p5 p6 hB6 ho6
            repeat' ((fail_if_success (with_reducible refine stop_append rfl ?_)); (fail_if_success (with_reducible refine stop_copy rfl ?_)); first | go_values | go_skip | go_guarded | go_step | go_upon | (simp only []; go_at_K))
            refine wpList_app _ rfl _ _ 40 rfl 45 Try.underlying40 infoRefO rfl (by decide) ho7 rfl hr8 rfl (fun u hu => hlen u (List.mem_of_mem_drop hu)) (by unfold maxLen; omega) (by omega) ?_
            intro A8 c8 w8 ho8 hu8
            have U8 := Uq.trans (U7.trans hu8)
            repeat' ((fail_if_success (with_reducible refine stop_append rfl ?_)); (fail_if_success (with_reducible refine stop_copy rfl ?_)); first | go_values | go_skip | go_guarded | go_step | go_upon | (simp only []; go_at_K))
            go_ret2
            have hz : (List.take (a * 7) (L.flatMap Ord.cells) ++ o.cells) ++ List.drop (a * 7) (L.flatMap Ord.cells) = (putL s o L).flatMap Ord.cells := by
              rw [HX.out, HI.out, List.flatMap_append, List.flatMap_cons, flat_take ord_len, flat_drop ord_len, List.append_assoc]
            refine ⟨_, _, _, by rw [HE.out]; rfl, RfL.of_own (t := 45) (by rw [← hz]; exact ho8), U8.gives (by simp), fun k hk => ?_⟩
            rcases U8.fresh k hk with h1 | h1
            · cases h1
            · exact .inr h1
          · have hgt : decide ((0 : Int) < (a : Int)) = true := decide_eq_true (by omega)
            have hgt' : decide (0 < a) = true := decide_eq_true (by omega)
            have hw1 : IntKind.i64.wrap ((a : Int) - 1) = ((a - 1 : Nat) : Int) := by rw [IntKind.wrap_i64]; omega
            have hkl : ((a - 1 : Nat) : Int) < (L.length : Int) := by omega
            have hal : a - 1 < L.length := by omega
            have hbt : better s o.price L[a - 1].price = false := by
              cases hbt : better s o.price L[a - 1].price
              · rfl
              · exact absurd ⟨a - 1, by omega, hal, hbt⟩ hbet
            have C := fun N => refBetter (wr.drewN N) s o.price L[a - 1].price
            rw [hbt] at C
            obtain ⟨ad, hA, -, -, -, a3, -⟩ := ord_at hFr.rd hal
            subst hA
            have a3' := fun N => ((Upd.refl [] wr).drewN N).cell a3 (by simp)
            have q3' := fun N => (hBr.drewN N).cell 3
            simp only [List.getElem?_toArray, List.getElem?_cons_succ, List.getElem?_cons_zero] at q3'
            clear hb hbt a3 hFr hbet hx h0
            generalize L[a - 1].price = y at *
            repeat' ((fail_if_success (with_reducible refine stop_append rfl ?_)); (fail_if_success (with_reducible refine stop_copy rfl ?_)); first | go_values | go_skip | go_guarded | go_step | go_upon | (simp only []; go_at_K))
            go_quiet ((go_at_call 49; with_reducible exact quiet_eq (C _)))
            clear q3' a3' C
            have hRq := hRd.upd0 ((Upd.refl [] wr).drewN nq)
            have hBq := hBr.drewN nq
            have Uq := UV.drewN nq
            clear hRd hBr UV
            generalize wr.drewN nq = W1 at *
            clear hw1 hkl hal V h
            generalize some ad = A at *
            repeat' ((fail_if_success (with_reducible refine stop_append rfl ?_)); (fail_if_success (with_reducible refine stop_copy rfl ?_)); first | go_values | go_skip | go_guarded | go_step | go_upon | (simp only []; go_at_K))
            have hr0 := (hRq.rd.rd.take (k := a) (by omega)).alloc (.cells #[] 45)
            have U1 : Upd [] (ablk (some ⟨W1.heap.size, 0, none⟩)) W1 (W1.alloc (.cells #[] 45)) := ((Upd.refl [] W1).alloc _).gives (by intro k hk; simp [ablk] at hk; subst hk; exact .inr (Nat.le_refl _))
            refine wpList_app _ rfl _ _ 40 rfl 45 Try.underlying40 infoRefO rfl (by decide) (Own.made 45 7 W1) rfl hr0 rfl (fun u hu => hlen u (List.mem_of_mem_take hu)) (by unfold maxLen; omega) (by omega) ?_
            intro A6 c6 w6 ho6 hu6
            have U6 := U1.trans hu6
            have hr7 := Rd.cut (hRq.rd.rd.upd U6 (by simp)) (k := a) (cap := c) (by omega) hcap
            have hB6 := hBq.upd U6 (by simp)
            obtain ⟨⟨p0, p1, p2, p3, p4, p5, p6⟩, -⟩ := hB6.c7
            rw [Nat.zero_add] at ho6
            clear hr0 U1 hu6
            repeat' ((fail_if_success (with_reducible refine stop_append rfl ?_)); (fail_if_success (with_reducible refine stop_copy rfl ?_)); first | go_values | go_skip | go_guarded | go_step | go_upon | (simp only []; go_at_K))
            refine wpList_push rfl _ _ 40 rfl 45 Try.underlying40 infoRefO rfl (by decide) ho6 rfl _ rfl (news := [.int .i64 o.id, .int .i64 o.client, .int .i64 o.side, .int .i64 o.price, .int .i64 o.qty, .bool o.peg, .int .i64 o.off]) rfl rfl rfl (by unfold maxLen; omega) (by omega) ?_
            intro A7 c7 w7 ho7 hu7
            have U7 := U6.trans hu7
            have hr8 := hr7.upd hu7 (fun k hk hm => by
              rw [ablk_if] at hk
              rcases U6.fresh k hm with h1 | h1
              · cases h1
              · have := hRq.lt k hk; omega)
            clear hr7 hu7 p0 p1 p2 p3 p4 p5 p6 hB6 ho6
            repeat' ((fail_if_success (with_reducible refine stop_append rfl ?_)); (fail_if_success (with_reducible refine stop_copy rfl ?_)); first | go_values | go_skip | go_guarded | go_step | go_upon | (simp only []; go_at_K))
            refine wpList_app _ rfl _ _ 40 rfl 45 Try.underlying40 infoRefO rfl (by decide) ho7 rfl hr8 rfl (fun u hu => hlen u (List.mem_of_mem_drop hu)) (by unfold maxLen; omega) (by omega) ?_
            intro A8 c8 w8 ho8 hu8
            have U8 := Uq.trans (U7.trans hu8)
            repeat' ((fail_if_success (with_reducible refine stop_append rfl ?_)); (fail_if_success (with_reducible refine stop_copy rfl ?_)); first | go_values | go_skip | go_guarded | go_step | go_upon | (simp only []; go_at_K))
            go_ret2
            have hz : (List.take (a * 7) (L.flatMap Ord.cells) ++ o.cells) ++ List.drop (a * 7) (L.flatMap Ord.cells) = (putL s o L).flatMap Ord.cells := by
              rw [HX.out, HI.out, List.flatMap_append, List.flatMap_cons, flat_take ord_len, flat_drop ord_len, List.append_assoc]
            refine ⟨_, _, _, by rw [HE.out]; rfl, RfL.of_own (t := 45) (by rw [← hz]; exact ho8), U8.gives (by simp), fun k hk => ?_⟩
            rcases U8.fresh k hk with h1 | h1
            · cases h1
            · exact .inr h1
end
end Go.Proofs.Ytdmmpcdilkcfjaa
