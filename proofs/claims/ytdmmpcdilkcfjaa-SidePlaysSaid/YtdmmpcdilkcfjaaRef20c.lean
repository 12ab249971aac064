/- agioref20: Cut, Drop. -/
import Derived.Test.YtdmmpcdilkcfjaaRef20b
import Derived.Test.YtdmmpcdilkcfjaaOwnRow
namespace Go.Proofs.Ytdmmpcdilkcfjaa
open Go.RowKit Agio

theorem findI_none {id : Int} {L : List Ord} (h : findO id L = none) : findI id L = -1 := by
  have := findO_isSome id L
  rw [h] at this
  have h2 : ¬ idxO id L < L.length := by simpa using this.symm
  exact if_neg h2
theorem findI_some {id : Int} {L : List Ord} {o : Ord} (h : findO id L = some o) : ∃ i, ∃ hi : i < L.length, idxO id L = i ∧ findI id L = (i : Int) ∧ L[i] = o := by
  have := findO_isSome id L
  rw [h] at this
  have h2 : idxO id L < L.length := by simpa using this.symm
  refine ⟨idxO id L, h2, rfl, if_pos h2, ?_⟩
  rw [findO_idx, List.getElem?_eq_getElem h2] at h
  injection h
theorem flat_setO {L : List Ord} {i : Nat} (hi : i < L.length) (q : Int) : (L.flatMap Ord.cells).set (i * 7 + 4) (.int .i64 q) = (L.set i { L[i] with qty := q }).flatMap Ord.cells := by
  induction L generalizing i with
  | nil => simp at hi
  | cons y l ih =>
    cases i with
    | zero => simp [Ord.cells]
    | succ i =>
      have := ih (i := i) (by simpa using hi)
      rw [List.flatMap_cons, show (i + 1) * 7 + 4 = (i * 7 + 4) + 7 by omega]
      simp only [List.getElem_cons_succ, List.set_cons_succ, List.flatMap_cons, ← this]
      simp [Ord.cells]

section
variable (w : World) (A : Option Addr) (n c : Nat) (L : List Ord) (h : RfL w A n c L)
include h
set_option maxRecDepth 100000 in
set_option maxHeartbeats 4000000 in
theorem refCut (hn : (L.map Ord.id).Nodup) (hl : L.length ≤ 1000) (id q : Int) : Calls Try.prog 18 #[.slice A n c, .int .i64 id, .int .i64 q] w fun e w' =>
    ∃ A' n' c', e = .returned (.tuple #[.slice A' n' c', .bool (cutE id q L)]) ∧ RefL w A w' A' n' c' (cutL id q L) := by
  have hnn := h.rd.len
  subst hnn
  have CF := refFind w A L.length c L h.rd (by omega) id
  cases hf : findO id L with
  | none =>
    have he : cutE id q L = false := by rw [cutE, hf]
    have hx : cutL id q L = L := by rw [cutL, he, if_neg (by simp)]
    rw [findI_none hf] at CF
    have HE := Lib.hid he
    have HX := Lib.hid hx
    have HF := Lib.hid (RefL.same h (Upd.refl [] w))
    clear he hx hf h hn
    go_enter Try.func18, Try.ntmps18
    repeat' ((fail_if_success (with_reducible refine stop_append rfl ?_)); (fail_if_success (with_reducible refine stop_copy rfl ?_)); first | go_values | go_skip | go_guarded | go_step | go_upon | (simp only []; go_at_K))
    ((with_reducible refine CF.mono ?_); rintro e w1 ⟨rfl, rfl⟩)
    clear CF
    repeat' ((fail_if_success (with_reducible refine stop_append rfl ?_)); (fail_if_success (with_reducible refine stop_copy rfl ?_)); first | go_values | go_skip | go_guarded | go_step | go_upon | (simp only []; go_at_K))
    go_ret2
    exact ⟨A, _, c, by rw [HE.out]; rfl, by rw [HX.out]; exact HF.out⟩
  | some o =>
    obtain ⟨i, hi, hix, hfi, hio⟩ := findI_some hf
    rw [hfi] at CF
    have he : cutE id q L = (decide (1 ≤ q) && decide (q < o.qty)) := by rw [cutE, hf]
    have hlt : decide ((i : Int) < 0) = false := decide_eq_false (by omega)
    have hil : (i : Int) < (L.length : Int) := by omega
    by_cases hc : 1 ≤ q ∧ q < o.qty
    · have he1 : cutE id q L = true := by rw [he]; simpa using hc
      obtain ⟨LS, hLS⟩ : ∃ LS, L.set i { L[i] with qty := q } = LS := ⟨_, rfl⟩
      have hx : cutL id q L = LS := by
        rw [← hLS, cutL, if_pos he1, cutO_idx hn (by omega)]
        simp only [hix]
      have t1 : decide (q < 1) = false := decide_eq_false (by omega)
      have t2 : decide (o.qty ≤ q) = false := decide_eq_false (by omega)
      have hset := flat_setO hi q
      rw [hLS] at hset
      have hlen := ords_one L
      obtain ⟨ad, hA, -, -, -, -, a4, -⟩ := ord_at h.rd hi
      subst hA
      rw [hio] at a4
      have HE := Lib.hid he1
      have HX := Lib.hid hx
      have HS := Lib.hid hset
      have HI := Lib.hid hi
      have HH := Lib.hid h
      clear he he1 hx hf hn hix hfi hio hset hLS hi h hc
      go_enter Try.func18, Try.ntmps18
      repeat' ((fail_if_success (with_reducible refine stop_append rfl ?_)); (fail_if_success (with_reducible refine stop_copy rfl ?_)); first | go_values | go_skip | go_guarded | go_step | go_upon | (simp only []; go_at_K))
      ((with_reducible refine CF.mono ?_); rintro e w1 ⟨rfl, rfl⟩)
      clear CF
      repeat' ((fail_if_success (with_reducible refine stop_append rfl ?_)); (fail_if_success (with_reducible refine stop_copy rfl ?_)); first | go_values | go_skip | go_guarded | go_step | go_upon | (simp only []; go_at_K))
      have U1 : Upd [] (ablk (some ⟨w.heap.size, 0, none⟩)) w (w.alloc (.cells #[] 45)) := ((Upd.refl [] w).alloc _).gives (by intro k hk; simp [ablk] at hk; subst hk; exact .inr (Nat.le_refl _))
      refine wpList_app _ rfl _ _ 40 rfl 45 Try.underlying40 infoRefO rfl (by decide) (Own.made 45 7 w) rfl (HH.out.rd.rd.alloc _) rfl hlen (by unfold maxLen; omega) (by omega) ?_
      intro A6 c6 w6 ho6 hu6
      have U6 := U1.trans hu6
      rw [Nat.zero_add, List.nil_append] at ho6
      obtain ⟨gA, hA, hff, ho, hu⟩ := ho6.write (k := i * 7 + 4) (by have := HI.out; omega) (.int .i64 q)
      have hrd6 : RdS Ord.cells 7 w6 A6 L.length L := ⟨rfl, ho6.rd⟩
      obtain ⟨ad6, hA', -, -, -, -, b4, -⟩ := ord_at hrd6 HI.out
      rw [hA] at hA'
      injection hA' with had
      have hp : (⟨(ad6.add (i * 7)).block, (ad6.add (i * 7)).off + 4, none⟩ : Addr) = ⟨gA, i * 7 + 4, none⟩ := by
        rw [← had, add0]
      rw [← hp] at hff ho hu
      rw [had] at hA
      subst hA
      have U7 := U6.trans hu
      have HU := Lib.hid U7
      have HO := Lib.hid ho
      clear hu6 U1 U6 ho6 hrd6 hp had ho hu U7 a4 hlen
      repeat' ((fail_if_success (with_reducible refine stop_append rfl ?_)); (fail_if_success (with_reducible refine stop_copy rfl ?_)); first | go_values | go_skip | go_guarded | go_step | go_upon | (simp only []; go_at_K))
      go_ret2
      refine ⟨_, _, _, by rw [HE.out]; rfl, RfL.of_own (t := 45) (by rw [HX.out, ← HS.out]; exact HO.out), HU.out.gives (by simp), fun k hk => ?_⟩
      rcases HU.out.fresh k hk with h1 | h1
      · cases h1
      · exact .inr h1
    · have he1 : cutE id q L = false := by
        rw [he]
        cases h1 : decide (1 ≤ q)
        · rfl
        · cases h2 : decide (q < o.qty)
          · rfl
          · exact absurd ⟨of_decide_eq_true h1, of_decide_eq_true h2⟩ hc
      have hx : cutL id q L = L := by rw [cutL, he1, if_neg (by simp)]
      obtain ⟨ad, hA, -, -, -, -, a4, -⟩ := ord_at h.rd hi
      subst hA
      rw [hio] at a4
      have HE := Lib.hid he1
      have HX := Lib.hid hx
      have HF := Lib.hid (RefL.same h (Upd.refl [] w))
      have hc2 : q < 1 ∨ 1 ≤ q ∧ o.qty ≤ q := by omega
      clear he he1 hx hf hn hix hfi hio hi h hc
      rcases hc2 with h1 | ⟨h1, h2⟩
      · have t1 : decide (q < 1) = true := decide_eq_true h1
        go_enter Try.func18, Try.ntmps18
        repeat' ((fail_if_success (with_reducible refine stop_append rfl ?_)); (fail_if_success (with_reducible refine stop_copy rfl ?_)); first | go_values | go_skip | go_guarded | go_step | go_upon | (simp only []; go_at_K))
        ((with_reducible refine CF.mono ?_); rintro e w1 ⟨rfl, rfl⟩)
        clear CF
        repeat' ((fail_if_success (with_reducible refine stop_append rfl ?_)); (fail_if_success (with_reducible refine stop_copy rfl ?_)); first | go_values | go_skip | go_guarded | go_step | go_upon | (simp only []; go_at_K))
        go_ret2
        exact ⟨_, _, c, by rw [HE.out]; rfl, by rw [HX.out]; exact HF.out⟩
      · have t1 : decide (q < 1) = false := decide_eq_false (by omega)
        have t2 : decide (o.qty ≤ q) = true := decide_eq_true h2
        go_enter Try.func18, Try.ntmps18
        repeat' ((fail_if_success (with_reducible refine stop_append rfl ?_)); (fail_if_success (with_reducible refine stop_copy rfl ?_)); first | go_values | go_skip | go_guarded | go_step | go_upon | (simp only []; go_at_K))
        ((with_reducible refine CF.mono ?_); rintro e w1 ⟨rfl, rfl⟩)
        clear CF
        repeat' ((fail_if_success (with_reducible refine stop_append rfl ?_)); (fail_if_success (with_reducible refine stop_copy rfl ?_)); first | go_values | go_skip | go_guarded | go_step | go_upon | (simp only []; go_at_K))
        go_ret2
        exact ⟨_, _, c, by rw [HE.out]; rfl, by rw [HX.out]; exact HF.out⟩

set_option maxRecDepth 100000 in
set_option maxHeartbeats 4000000 in
theorem refDrop (hn : (L.map Ord.id).Nodup) (hl : L.length ≤ 1000) (id : Int) : Calls Try.prog 19 #[.slice A n c, .int .i64 id] w fun e w' =>
    ∃ A' n' c', e = .returned (.tuple #[.slice A' n' c', (getO id L).val, .bool (findO id L).isSome]) ∧ RefL w A w' A' n' c' (dropO id L) := by
  have hnn := h.rd.len
  subst hnn
  have hB0 := Blk.new w 45 #[.int .i64 0, .int .i64 0, .int .i64 0, .int .i64 0, .int .i64 0, .bool false, .int .i64 0]
  have U0 : Upd [] [] w (w.alloc (.cells #[.int .i64 0, .int .i64 0, .int .i64 0, .int .i64 0, .int .i64 0, .bool false, .int .i64 0] 45)) := (Upd.refl _ _).alloc _
  obtain ⟨b5, hb5⟩ : ∃ b5, w.heap.size = b5 := ⟨_, rfl⟩
  have hlt : w.heap.size ≤ b5 := by omega
  have h0 := h.upd0 U0
  have CF := refFind _ A L.length c L h0.rd (by omega) id
  rw [hb5] at hB0
  obtain ⟨W, eW⟩ : ∃ W, w.alloc (.cells #[.int .i64 0, .int .i64 0, .int .i64 0, .int .i64 0, .int .i64 0, .bool false, .int .i64 0] 45) = W := ⟨_, rfl⟩
  rw [eW] at hB0 U0 h0 CF
  cases hf : findO id L with
  | none =>
    have hx : dropO id L = L := dropO_self hf
    have hg : getO id L = ord0 := by rw [getO, hf]; rfl
    rw [findI_none hf] at CF
    have HX := Lib.hid hx
    have HG := Lib.hid hg
    clear hx hf hn hg
    go_enter Try.func19, Try.ntmps19
    repeat' ((fail_if_success (with_reducible refine stop_append rfl ?_)); (fail_if_success (with_reducible refine stop_copy rfl ?_)); first | go_values | go_skip | go_guarded | go_step | go_upon | (simp only []; go_at_K))
    ((with_reducible refine CF.mono ?_); rintro e w1 ⟨rfl, rfl⟩)
    clear CF
    obtain ⟨⟨p0, p1, p2, p3, p4, p5, p6⟩, f0, f1, f2, f3, f4, f5, f6⟩ := hB0.c7
    repeat' ((fail_if_success (with_reducible refine stop_append rfl ?_)); (fail_if_success (with_reducible refine stop_copy rfl ?_)); first | go_values | go_skip | go_guarded | go_step | go_upon | (simp only []; go_at_K))
    have N := rowSet [.int .i64 0, .int .i64 0, .int .i64 0, .int .i64 0, .int .i64 0, .bool false, .int .i64 0] hB0 rfl U0 (.inr hlt)
    simp only [setRow] at N
    generalize World.setCell _ ⟨b5, 6, none⟩ _ = W5 at N ⊢
    obtain ⟨hN, hU5⟩ := N
    have HF := RefL.same h hU5
    clear p0 p1 p2 p3 p4 p5 p6 f0 f1 f2 f3 f4 f5 f6 hB0
    obtain ⟨⟨p0, p1, p2, p3, p4, p5, p6⟩, -⟩ := hN.c7
    refine bodyPost_ret (v := .tuple #[.slice A L.length c, .agg #[.int .i64 0, .int .i64 0, .int .i64 0, .int .i64 0, .int .i64 0, .bool false, .int .i64 0], .bool false]) ?_ rfl ?_
    · simp [results, Try.results19, go_sem, p0, p1, p2, p3, p4, p5, p6]
    · exact ⟨A, _, c, by rw [HG.out]; rfl, by rw [HX.out]; exact HF⟩
  | some o =>
    obtain ⟨i, hi, hix, hfi, hio⟩ := findI_some hf
    rw [hfi] at CF
    have hx : dropO id L = L.take i ++ L.drop (i + 1) := by rw [dropO_idx hn (by omega), hix]
    have hg : getO id L = o := by rw [getO, hf]; rfl
    have hlt0 : decide ((i : Int) < 0) = false := decide_eq_false (by omega)
    have hil : (i : Int) < (L.length : Int) := by omega
    have hw1 : IntKind.i64.wrap ((i : Int) + 1) = (i : Int) + 1 := by rw [IntKind.wrap_i64]; omega
    have hcap := h.cap
    have i1 : (i : Int) + 1 ≤ (L.length : Int) := by omega
    have i2 : (0 : Int) ≤ (i : Int) + 1 := by omega
    have i3 : (L.length : Int) ≤ (c : Int) := by omega
    have i4 : (i : Int) ≤ (c : Int) := by omega
    have hlen := ords_one L
    have HX := Lib.hid hx
    have HG := Lib.hid hg
    have HI := Lib.hid hi
    have HH := Lib.hid h0
    obtain ⟨ad, hA, a0, a1, a2, a3, a4, a5, a6⟩ := ord_at h0.rd hi
    subst hA
    rw [hio] at a0 a1 a2 a3 a4 a5 a6
    have hz : (List.take (i * 7) (L.flatMap Ord.cells)) ++ List.drop ((i + 1) * 7) (L.flatMap Ord.cells) = (dropO id L).flatMap Ord.cells := by
      rw [hx, List.flatMap_append, flat_take ord_len, flat_drop ord_len]
    have HZ := Lib.hid hz
    have HL := Lib.hid h.lt
    clear hx hf hn hg hix hfi hio hi h hz
    go_enter Try.func19, Try.ntmps19
    repeat' ((fail_if_success (with_reducible refine stop_append rfl ?_)); (fail_if_success (with_reducible refine stop_copy rfl ?_)); first | go_values | go_skip | go_guarded | go_step | go_upon | (simp only []; go_at_K))
    ((with_reducible refine CF.mono ?_); rintro e w1 ⟨rfl, rfl⟩)
    clear CF
    repeat' ((fail_if_success (with_reducible refine stop_append rfl ?_)); (fail_if_success (with_reducible refine stop_copy rfl ?_)); first | go_values | go_skip | go_guarded | go_step | go_upon | (simp only []; go_at_K))
    have U1 : Upd [] (ablk (some ⟨W.heap.size, 0, none⟩)) W (W.alloc (.cells #[] 45)) := ((Upd.refl [] W).alloc _).gives (by intro k hk; simp [ablk] at hk; subst hk; exact .inr (Nat.le_refl _))
    have hr0 := (HH.out.rd.rd.take (k := i) (by have := HI.out; omega)).alloc (.cells #[] 45)
    refine wpList_app _ rfl _ _ 40 rfl 45 Try.underlying40 infoRefO rfl (by decide) (Own.made 45 7 W) rfl hr0 rfl (fun u hu => hlen u (List.mem_of_mem_take hu)) (by unfold maxLen; omega) (by omega) ?_
    intro A6 c6 w6 ho6 hu6
    have U6 := U1.trans hu6
    rw [Nat.zero_add, List.nil_append] at ho6
    have hr7 := Rd.cut (HH.out.rd.rd.upd U6 (by simp)) (k := i + 1) (cap := c) (by have := HI.out; omega) hcap
    rw [Option.map_some] at hr7
    clear hr0 U1 hu6
    repeat' ((fail_if_success (with_reducible refine stop_append rfl ?_)); (fail_if_success (with_reducible refine stop_copy rfl ?_)); first | go_values | go_skip | go_guarded | go_step | go_upon | (simp only []; go_at_K))
    refine wpList_app _ rfl _ _ 40 rfl 45 Try.underlying40 infoRefO rfl (by decide) ho6 rfl hr7 rfl (fun u hu => hlen u (List.mem_of_mem_drop hu)) (by unfold maxLen; omega) (by omega) ?_
    intro A8 c8 w8 ho8 hu8
    have U8 := U6.trans hu8
    rw [HZ.out] at ho8
    have hB8 := hB0.upd U8 (by simp)
    have b0 := U8.cell a0 (by simp)
    have b1 := U8.cell a1 (by simp)
    have b2 := U8.cell a2 (by simp)
    have b3 := U8.cell a3 (by simp)
    have b4 := U8.cell a4 (by simp)
    have b5' := U8.cell a5 (by simp)
    have b6 := U8.cell a6 (by simp)
    have hne : ad.block ≠ b5 := fun e => by have := HL.out ad.block (by simp [ablk]); omega
    have hne2 : (ad.add (i * 7)).block ≠ b5 := by rw [block_of_add]; exact hne
    have N := rowSet [.int .i64 o.id, .int .i64 o.client, .int .i64 o.side, .int .i64 o.price, .int .i64 o.qty, .bool o.peg, .int .i64 o.off] hB8 rfl (U0.trans U8) (.inr hlt)
    obtain ⟨hN, hU9⟩ := N
    have N2 := rowSet [.int .i64 o.id, .int .i64 o.client, .int .i64 o.side, .int .i64 o.price, .int .i64 o.qty, .bool o.peg, .int .i64 o.off] hB8 rfl (Upd.refl [b5] w8) (.inl (by simp))
    have hA8 : b5 ∉ ablk A8 := fun hm => by
      rcases U8.fresh b5 hm with h1 | h1
      · cases h1
      · have := hB0.lt; omega
    have ho9 := ho8.upd N2.2 (fun k hk => by simp; rintro rfl; exact hA8 hk)
    have c0 := N2.2.cell b0 (by simpa using hne2)
    have c1 := N2.2.cell b1 (by simpa using hne2)
    have c2 := N2.2.cell b2 (by simpa using hne2)
    have c3 := N2.2.cell b3 (by simpa using hne2)
    have c4 := N2.2.cell b4 (by simpa using hne2)
    have c5 := N2.2.cell b5' (by simpa using hne2)
    have c6 := N2.2.cell b6 (by simpa using hne2)
    have HO9 := Lib.hid ho9
    have HF8 : Hid (∀ k ∈ ablk A8, k ∈ ([] : List Nat) ∨ w.heap.size ≤ k) := Lib.hid fun k hk => by
      rcases U8.fresh k hk with h1 | h1
      · exact .inl h1
      · exact .inr (Nat.le_trans U0.size h1)
    have HN9 := Lib.hid hN
    have HU9 := Lib.hid hU9
    simp only [setRow] at c0 c1 c2 c3 c4 c5 c6
    obtain ⟨⟨p0, p1, p2, p3, p4, p5, p6⟩, f0, f1, f2, f3, f4, f5, f6⟩ := hB8.c7
    clear hr7 ho6 U6 hu8 U8 ho8 N2 hN hU9 ho9 hB8 a0 a1 a2 a3 a4 a5 a6 hA8
    repeat' ((fail_if_success (with_reducible refine stop_append rfl ?_)); (fail_if_success (with_reducible refine stop_copy rfl ?_)); first | go_values | go_skip | go_guarded | go_step | go_upon | (simp only []; go_at_K))
    go_region
    all_goals (repeat' ((fail_if_success (with_reducible refine stop_append rfl ?_)); (fail_if_success (with_reducible refine stop_copy rfl ?_)); first | go_values | go_skip | go_guarded | go_step | go_upon | (simp only []; go_at_K)))
    all_goals
      have hN := HN9.out
      have hU9 := HU9.out
      have ho9 := HO9.out
      clear HN9 HU9 HO9 p0 p1 p2 p3 p4 p5 p6 f0 f1 f2 f3 f4 f5 f6 b0 b1 b2 b3 b4 b5' b6 c0 c1 c2 c3 c4 c5 c6
      simp only [setRow] at hN hU9 ho9
      generalize World.setCell _ ⟨b5, 6, none⟩ _ = W9 at *
      obtain ⟨⟨p0, p1, p2, p3, p4, p5, p6⟩, -⟩ := hN.c7
      refine bodyPost_ret (v := .tuple #[.slice A8 (i + (L.length - (i + 1))) c8, .agg #[.int .i64 o.id, .int .i64 o.client, .int .i64 o.side, .int .i64 o.price, .int .i64 o.qty, .bool o.peg, .int .i64 o.off], .bool true]) ?_ rfl ?_
      · simp [results, Try.results19, go_sem, p0, p1, p2, p3, p4, p5, p6]
      · refine ⟨A8, _, c8, by rw [HG.out]; rfl, RfL.of_own (t := 45) ho9, (hU9.gives (b' := []) (by simp)).drew, fun k hk => ?_⟩
        rcases HF8.out k hk with h1 | h1
        · cases h1
        · exact .inr h1
end
end Go.Proofs.Ytdmmpcdilkcfjaa
