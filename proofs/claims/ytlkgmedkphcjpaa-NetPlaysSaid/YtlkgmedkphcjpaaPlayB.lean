/- agioref13: Take. -/
import Derived.Test.YtlkgmedkphcjpaaPlayA
import Derived.Deep.RegionHeld3
namespace Go.Proofs.Ytlkgmedkphcjpaa
open Go.RowKit Agio

set_option maxRecDepth 100000 in
set_option maxHeartbeats 2000000 in
theorem refTake_no (w : World) (A : Option Addr) (n c : Nat) (i : Int) (ht : thereB n i = false) :
    Calls Try.prog 17 #[.slice A n c, .int .i64 i] w fun e w' => e = .returned (.tuple #[.slice A n c, .agg #[.int .i64 0, .slice none 0 0], .bool false]) ∧ Upd [] [] w w' := by
  have C := fun w => refHas w A n c i
  rw [ht] at C
  clear ht
  go_enter Try.func17, Try.ntmps17
  repeat' ((fail_if_success (with_reducible refine stop_append rfl ?_)); (fail_if_success (with_reducible refine stop_copy rfl ?_)); first | go_values | go_skip | go_guarded | go_step | go_upon | (simp only []; go_at_K))
  have hR := Blk.new w 37 #[.int .i64 0, .slice none 0 0]
  have U1 : Upd [] [] w (w.alloc (.cells #[.int .i64 0, .slice none 0 0] 37)) := (Upd.refl _ _).alloc _
  obtain ⟨W, hW⟩ : ∃ W, w.alloc (.cells #[.int .i64 0, .slice none 0 0] 37) = W := ⟨_, rfl⟩
  rw [hW] at hR U1 ⊢
  clear hW
  obtain ⟨⟨q0, q1⟩, f0⟩ := hR.c2
  have f1 := hR.frozen 1
  ((with_reducible refine (C _).mono ?_); rintro e w1 ⟨rfl, rfl⟩)
  repeat' ((fail_if_success (with_reducible refine stop_append rfl ?_)); (fail_if_success (with_reducible refine stop_copy rfl ?_)); first | go_values | go_skip | go_guarded | go_step | go_upon | (simp only []; go_at_K))
  have N := rowSet [.int .i64 0, .slice none 0 0] hR rfl U1 (.inr (by omega))
  simp only [setRow] at N
  generalize World.setCell _ ⟨w.heap.size, 1, none⟩ _ = W5 at N ⊢
  obtain ⟨hN, hU5⟩ := N
  clear q0 q1
  obtain ⟨⟨q0, q1⟩, -⟩ := hN.c2
  exact bodyPost_ret (v := .tuple #[.slice A n c, .agg #[.int .i64 0, .slice none 0 0], .bool false]) (by simp [results, Try.results17, go_sem, q0, q1]) rfl ⟨rfl, hU5⟩

/-- What the document's Take tells. -/
def Took (x : Pk) (l : List Pk) (w : World) (e : Ending) (w' : World) : Prop :=
  ∃ A' n' c', e = .returned (.tuple #[.slice A' n' c', .agg #[.int .i64 x.to, .slice x.A x.n x.c], .bool true]) ∧ Own 37 2 w' A' n' c' (l.flatMap Pk.cells) ∧ n' = l.length ∧ Upd [] (ablk A') w w'

theorem flat_take2 (l : List Pk) (k : Nat) : (l.flatMap Pk.cells).take (k * 2) = (l.take k).flatMap Pk.cells := by
  induction k generalizing l with
  | zero => simp
  | succ k ih =>
    cases l with
    | nil => simp
    | cons x l => simp only [List.flatMap_cons, List.take_succ_cons, ← ih]; rw [show (k + 1) * 2 = k * 2 + 2 by omega]; simp [Pk.cells]
theorem flat_drop2 (l : List Pk) (k : Nat) : (l.flatMap Pk.cells).drop (k * 2) = (l.drop k).flatMap Pk.cells := by
  induction k generalizing l with
  | zero => simp
  | succ k ih =>
    cases l with
    | nil => simp
    | cons x l => simp only [List.flatMap_cons, List.drop_succ_cons, ← ih]; rw [show (k + 1) * 2 = k * 2 + 2 by omega]; simp [Pk.cells]
set_option maxRecDepth 100000 in
set_option maxHeartbeats 4000000 in
theorem refTake (w : World) (A : Option Addr) (n c : Nat) (l : List Pk) (h : RdS Pk.cells 2 w A n l) (hc : n ≤ c) (i : Nat) (hi : i < l.length) (hl : l.length ≤ 5000) (x : Pk) (hx : l[i] = x) :
    Calls Try.prog 17 #[.slice A n c, .int .i64 (i : Int)] w (Took x (l.eraseIdx i) w) := by
  have hn := h.len
  have hin : (i : Int) < (n : Int) := by omega
  have ht : thereB n (i : Int) = true := by unfold thereB; simp; omega
  have C := fun w => refHas w A n c (i : Int)
  rw [ht] at C
  have hnc : (n : Int) ≤ (c : Int) := by omega
  have hic : (i : Int) ≤ (c : Int) := by omega
  have hi1 : (i : Int) + 1 ≤ (n : Int) := by omega
  have hw1 : IntKind.i64.wrap ((i : Int) + 1) = (i : Int) + 1 := by rw [IntKind.wrap_i64]; omega
  have hi0 : (0 : Int) ≤ (i : Int) + 1 := by omega
  have HN := Lib.hid hn
  clear ht hn
  go_enter Try.func17, Try.ntmps17
  repeat' ((fail_if_success (with_reducible refine stop_append rfl ?_)); (fail_if_success (with_reducible refine stop_copy rfl ?_)); first | go_values | go_skip | go_guarded | go_step | go_upon | (simp only []; go_at_K))
  have hg5 := Blk.new w 37 #[.int .i64 0, .slice none 0 0]
  have U1 : Upd [] [] w (w.alloc (.cells #[.int .i64 0, .slice none 0 0] 37)) := (Upd.refl _ _).alloc _
  have hgl := hg5.lt
  obtain ⟨W, hW⟩ : ∃ W, w.alloc (.cells #[.int .i64 0, .slice none 0 0] 37) = W := ⟨_, rfl⟩
  rw [hW] at hg5 U1 hgl ⊢
  clear hW
  ((with_reducible refine (C _).mono ?_); rintro e w1 ⟨rfl, rfl⟩)
  repeat' ((fail_if_success (with_reducible refine stop_append rfl ?_)); (fail_if_success (with_reducible refine stop_copy rfl ?_)); first | go_values | go_skip | go_guarded | go_step | go_upon | (simp only []; go_at_K))
  clear C
  have h1 := h.upd0 U1
  refine wpList_app _ rfl _ _ 26 rfl 37 Try.underlying26 infoPk2 rfl (by decide) (Own.made 37 2 W) rfl ((Rd.take (k := i) h1.rd (by omega)).alloc _) rfl (fun u hu => Pk.one l u (List.mem_of_mem_take hu)) (by unfold maxLen; omega) (by omega) ?_
  intro A1 c1 w1 ho1 hu1
  have U2 : Upd [] (ablk A1) W w1 := (((Upd.refl [] W).alloc (.cells #[] 37)).gives (b' := ablk (some ⟨W.heap.size, 0, none⟩)) (by intro k hk; simp [ablk] at hk; subst hk; exact .inr (Nat.le_refl _))).trans hu1
  rw [Nat.zero_add] at ho1
  have h2 := h1.upd0 U2
  have hg5' := hg5.upd U2 (by simp)
  clear hu1 h1
  repeat' ((fail_if_success (with_reducible refine stop_append rfl ?_)); (fail_if_success (with_reducible refine stop_copy rfl ?_)); first | go_values | go_skip | go_guarded | go_step | go_upon | (simp only []; go_at_K))
  have h3 : RdS Pk.cells 2 w1.drew A n l := ⟨h2.len, h2.rd⟩
  have hn' := HN.out
  have ho3 : Own 37 2 w1.drew A1 i c1 ((l.take i).flatMap Pk.cells) := by rw [← flat_take2]; exact ho1
  obtain ⟨ad, rfl, p0', p1'⟩ := RdS.at_ Pk.cells_len h3 hi
  rw [hx] at p0' p1'
  have p0 := p0' _ rfl
  have p1 := p1' 1 _ (by omega) rfl
  have hb0 : ad.block < w.heap.size := by
    obtain ⟨ad', e', hc'⟩ := h.rd.2 (by omega)
    injection e' with e'
    subst e'
    have hlen : 0 < (l.flatMap Pk.cells).length := by rw [h.rd.1]; omega
    have := World.block_lt_of_cell? w _ (hc' 0 _ (List.getElem?_eq_getElem hlen))
    rwa [block_of_add] at this
  have hfr1 : ∀ k ∈ ablk A1, W.heap.size ≤ k := fun k hk => by
    rcases U2.fresh k hk with h1 | h1
    · cases h1
    · exact h1
  have hbA : ad.block ∉ ablk A1 := fun hm => by have := hfr1 _ hm; have := U1.size; omega
  have hgA : w.heap.size ∉ ablk A1 := fun hm => by have := hfr1 _ hm; omega
  have hbg : ad.block ≠ w.heap.size := by omega
  obtain ⟨A2, hA2⟩ : ∃ A2, (if c = i + 1 then some ad else some (ad.add ((i + 1) * 2))) = A2 := ⟨_, rfl⟩
  have hr2 : Rd w1.drew 2 A2 (n - (i + 1)) ((l.drop (i + 1)).flatMap Pk.cells) := by
    have := Rd.cut h3.rd (k := i + 1) (cap := c) (by omega) hc
    rw [← hA2, ← flat_drop2]
    exact this
  have hA2b : ∀ k ∈ ablk A2, k = ad.block := by
    intro k hk
    rw [← hA2] at hk
    split at hk <;> simp [ablk, block_of_add] at hk <;> exact hk
  have hcat : l.eraseIdx i = l.take i ++ l.drop (i + 1) := List.eraseIdx_eq_take_drop_succ ..
  have hcf : (l.eraseIdx i).flatMap Pk.cells = (l.take i).flatMap Pk.cells ++ (l.drop (i + 1)).flatMap Pk.cells := by rw [hcat, List.flatMap_append]
  have hcl : (l.eraseIdx i).length = i + (n - (i + 1)) := by rw [List.length_eraseIdx, if_pos hi]; omega
  have Ud : Upd [] (ablk A1) w w1.drew := (U1.gives (b' := []) (by simp)).trans U2.drew
  have hg5d : Blk w1.drew w.heap.size 37 #[.int .i64 0, .slice none 0 0] := hg5'.drew
  obtain ⟨g5, hgg⟩ : ∃ g5, w.heap.size = g5 := ⟨_, rfl⟩
  rw [hgg] at hgA hbg hg5d ⊢
  have hg5w : w.heap.size ≤ g5 := by omega
  -- the store ahead of the append
  have hSt : ∀ W : World, Upd [g5] [g5] W ((W.setCell ⟨g5, 0, none⟩ (.int .i64 x.to)).setCell ⟨g5, 1, none⟩ (.slice x.A x.n x.c)) := fun W => ((Upd.refl _ _).setCell (.inl (by simp)) _).setCell (.inl (by simp)) _
  have hBs : ∀ W : World, Blk W g5 37 #[.int .i64 0, .slice none 0 0] → Blk ((W.setCell ⟨g5, 0, none⟩ (.int .i64 x.to)).setCell ⟨g5, 1, none⟩ (.slice x.A x.n x.c)) g5 37 #[.int .i64 x.to, .slice x.A x.n x.c] := fun W h => by simpa using (h.set_ 0 (.int .i64 x.to)).set_ 1 (.slice x.A x.n x.c)
  obtain ⟨A3, c3, w3, hrun, ho4, hu4⟩ := run_app (P := Try.prog) w1.drew 26 26 37 Try.underlying26 infoPk2 rfl (by decide) A1 i c1 _ ho3 A2 (n - (i + 1)) (c - (i + 1)) _ hr2 (fun u hu => Pk.one _ u hu) (by unfold maxLen; omega) (by omega)
  have ho3s := ho3.upd (hSt w1.drew) (fun k hk => by simp; rintro rfl; exact hgA hk)
  have hr2s := hr2.upd (hSt w1.drew) (fun k hk => by simp; rintro rfl; exact hbg (hA2b _ hk).symm)
  obtain ⟨A4, c4, w4, hrun4, ho5, hu5⟩ := run_app (P := Try.prog) _ 26 26 37 Try.underlying26 infoPk2 rfl (by decide) A1 i c1 _ ho3s A2 (n - (i + 1)) (c - (i + 1)) _ hr2s (fun u hu => Pk.one _ u hu) (by unfold maxLen; omega) (by omega)
  rw [← hcf] at ho4 ho5
  have q0 := hu4.cell p0 (by rw [block_of_add]; exact hbA)
  have q1 := hu4.cell p1 (by simp only [block_of_add]; exact hbA)
  have hb3 := hg5d.upd hu4 hgA
  -- what comes out, in either order
  have E1 : Blk ((w3.setCell ⟨g5, 0, none⟩ (.int .i64 x.to)).setCell ⟨g5, 1, none⟩ (.slice x.A x.n x.c)) g5 37 #[.int .i64 x.to, .slice x.A x.n x.c] ∧ Took x (l.eraseIdx i) w (.returned (.tuple #[.slice A3 (i + (n - (i + 1))) c3, .agg #[.int .i64 x.to, .slice x.A x.n x.c], .bool true])) ((w3.setCell ⟨g5, 0, none⟩ (.int .i64 x.to)).setCell ⟨g5, 1, none⟩ (.slice x.A x.n x.c)) := by
    have hg3 : g5 ∉ ablk A3 := fun hm => by
      rcases hu4.fresh g5 hm with h1 | h1
      · exact hgA h1
      · have := hg5d.lt; omega
    refine ⟨hBs _ hb3, A3, _, c3, rfl, ho4.upd (hSt w3) (fun k hk => by simp; rintro rfl; exact hg3 hk), hcl.symm, ?_⟩
    exact ((Ud.trans hu4).setCell (.inr hg5w) _).setCell (.inr hg5w) _
  have E2 : Blk w4 g5 37 #[.int .i64 x.to, .slice x.A x.n x.c] ∧ Took x (l.eraseIdx i) w (.returned (.tuple #[.slice A4 (i + (n - (i + 1))) c4, .agg #[.int .i64 x.to, .slice x.A x.n x.c], .bool true])) w4 := by
    refine ⟨(hBs _ hg5d).upd hu5 hgA, A4, _, c4, rfl, ho5, hcl.symm, ?_⟩
    exact ((Ud.setCell (.inr hg5w) _).setCell (.inr hg5w) _).trans hu5
  obtain ⟨⟨t0, t1⟩, f0⟩ := hg5d.c2
  obtain ⟨⟨s0, s1⟩, f1⟩ := hb3.c2
  have T1 : ∀ W : World, W.cell? (ad.add (i * 2)) = some (.int .i64 x.to) ∧ W.cell? ⟨(ad.add (i * 2)).block, (ad.add (i * 2)).off + 1, none⟩ = some (.slice x.A x.n x.c) →
      ((W.setCell ⟨g5, 0, none⟩ (.int .i64 x.to)).setCell ⟨g5, 1, none⟩ (.slice x.A x.n x.c)).cell? (ad.add (i * 2)) = some (.int .i64 x.to) ∧ ((W.setCell ⟨g5, 0, none⟩ (.int .i64 x.to)).setCell ⟨g5, 1, none⟩ (.slice x.A x.n x.c)).cell? ⟨(ad.add (i * 2)).block, (ad.add (i * 2)).off + 1, none⟩ = some (.slice x.A x.n x.c) :=
    fun W h => ⟨(hSt W).cell h.1 (by rw [block_of_add]; simpa using hbg), (hSt W).cell h.2 (by simp only [block_of_add]; simpa using hbg)⟩
  have z1 := T1 _ ⟨p0, p1⟩
  have z3 := T1 _ ⟨q0, q1⟩
  have z4 : w4.cell? (ad.add (i * 2)) = some (.int .i64 x.to) ∧ w4.cell? ⟨(ad.add (i * 2)).block, (ad.add (i * 2)).off + 1, none⟩ = some (.slice x.A x.n x.c) := ⟨hu5.cell z1.1 (by rw [block_of_add]; exact hbA), hu5.cell z1.2 (by simp only [block_of_add]; exact hbA)⟩
  have HE1 := Lib.hid E1
  have HE2 := Lib.hid E2
  clear E1 E2 T1 hSt hBs h hg5 hg5' U1 U2 ho1 h2 h3 ho3 hr2 p0' p1' hx hi hl hc hn' ho3s hr2s ho4 ho5 hu4 hu5 hcat hcf hcl Ud hb3 hg5d hfr1 hA2b hbA hgA hbg hb0
  go_region_held3 (fun w' => w'.cell? (ad.add (i * 2)) = some (.int .i64 x.to) ∧ w'.cell? ⟨(ad.add (i * 2)).block, (ad.add (i * 2)).off + 1, none⟩ = some (.slice x.A x.n x.c)) (first | exact ⟨p0, p1⟩ | exact ⟨q0, q1⟩ | exact z1 | exact z3 | exact z4)
    (first
      | (refine step_run rfl (.tmp 19) (.tmp 23) 26 rfl (.slice A1 i c1) (.slice A2 (n - (i + 1)) (c - (i + 1))) _ w3 rfl rfl hrun ?_)
      | (refine step_run rfl (.tmp 19) (.tmp 23) 26 rfl (.slice A1 i c1) (.slice A2 (n - (i + 1)) (c - (i + 1))) _ w4 rfl rfl hrun4 ?_))
  all_goals clear p0 p1 q0 q1 z1 z3 z4 t0 t1 s0 s1 f0 f1 hrun hrun4
  all_goals (repeat' ((fail_if_success (with_reducible refine stop_append rfl ?_)); (fail_if_success (with_reducible refine stop_copy rfl ?_)); first | go_values | go_skip | go_guarded | go_step | go_upon | (simp only []; go_at_K)))
  all_goals first
    | (have E := HE1.out
       clear HE1 HE2
       generalize (w3.setCell ⟨g5, 0, none⟩ (.int .i64 x.to)).setCell ⟨g5, 1, none⟩ (.slice x.A x.n x.c) = W5 at E ⊢
       obtain ⟨hN, hT⟩ := E
       obtain ⟨⟨q0, q1⟩, -⟩ := hN.c2
       exact bodyPost_ret (v := .tuple #[.slice A3 (i + (n - (i + 1))) c3, .agg #[.int .i64 x.to, .slice x.A x.n x.c], .bool true]) (by simp [results, Try.results17, go_sem, q0, q1]) rfl hT)
    | (have E := HE2.out
       clear HE1 HE2
       obtain ⟨hN, hT⟩ := E
       obtain ⟨⟨q0, q1⟩, -⟩ := hN.c2
       exact bodyPost_ret (v := .tuple #[.slice A4 (i + (n - (i + 1))) c4, .agg #[.int .i64 x.to, .slice x.A x.n x.c], .bool true]) (by simp [results, Try.results17, go_sem, q0, q1]) rfl hT)
end Go.Proofs.Ytlkgmedkphcjpaa
