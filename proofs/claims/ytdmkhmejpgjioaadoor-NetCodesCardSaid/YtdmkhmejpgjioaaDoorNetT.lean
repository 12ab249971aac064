/- A net: (agio/net).Take. -/
import Derived.Test.YtdmkhmejpgjioaaDoorNetN
set_option linter.all false
namespace Go.Proofs.YtdmkhmejpgjioaaDoor
open Go.RowKit Agio

theorem Rel.eraseIdx_mem {α : Type} {l : List α} {i : Nat} {x : α} (h : x ∈ l.eraseIdx i) : x ∈ l := (List.eraseIdx_sublist l i).subset h
/-- A packet less, in memory. -/
theorem NetS.pull {w w1 w2 : World} {g : Nat} {A A' : Option Addr} {n c c' : Nat} {l : List Pk} {i : Nat} (h : NetS w g A n c l) (hi : i < l.length) (hu1 : Upd [] [] w w1)
    (hr : PkL w2 A' (n - 1) c' (l.eraseIdx i)) (hu2 : Upd (ablk A) (ablk A') w1 w2) :
    NetS (w2.setCell ⟨g, 0, none⟩ (.slice A' (n - 1) c')) g A' (n - 1) c' (l.eraseIdx i) ∧ OwnB 5 (w2.setCell ⟨g, 0, none⟩ (.slice A' (n - 1) c')) l[i].A l[i].n l[i].c l[i].b
      ∧ (∀ k ∈ ablk l[i].A, k ∉ fpN g A' (l.eraseIdx i)) ∧ Upd (fpN g A l) (fpN g A' (l.eraseIdx i)) w (w2.setCell ⟨g, 0, none⟩ (.slice A' (n - 1) c')) := by
  have h1 := h.upd0 hu1
  have hgA : g ∉ ablk A := h1.row.ne h1.blk (by decide)
  have hb2 := h1.blk.upd hu2 hgA
  have hgA' : g ∉ ablk A' := hr.ne hb2 (by decide)
  have hset : Upd [g] [g] w2 (w2.setCell ⟨g, 0, none⟩ (.slice A' (n - 1) c')) := (Upd.refl _ _).setCell (.inl (by simp)) _
  have hold : ∀ y ∈ l, OwnB 5 w2 y.A y.n y.c y.b := fun y hy => (h1.each y hy).upd hu2 (h1.row.apart (h1.each y hy).own (by decide))
  have hnew : ∀ y ∈ l, OwnB 5 (w2.setCell ⟨g, 0, none⟩ (.slice A' (n - 1) c')) y.A y.n y.c y.b := fun y hy =>
    (hold y hy).upd hset (fun k hk => by simp; rintro rfl; exact (hold y hy).own.ne hb2 (by decide) hk)
  have hmem : ∀ y, y ∈ l.eraseIdx i → y ∈ l := fun y hy => Rel.eraseIdx_mem hy
  have hr' : PkL (w2.setCell ⟨g, 0, none⟩ (.slice A' (n - 1) c')) A' (n - 1) c' (l.eraseIdx i) := hr.upd hset (fun k hk => by simp; rintro rfl; exact hgA' hk)
  have hb' : Blk (w2.setCell ⟨g, 0, none⟩ (.slice A' (n - 1) c')) g 160 #[.slice A' (n - 1) c'] := by simpa using hb2.set_ 0 (.slice A' (n - 1) c')
  have hx := hnew l[i] (List.getElem_mem hi)
  refine ⟨⟨hb', hr', fun y hy => hnew y (hmem y hy), h.far.sublist (List.eraseIdx_sublist l i), ?_⟩, hx, ?_, ?_⟩
  · have := h.le; rw [List.length_eraseIdx, if_pos hi]; omega
  · intro k hk hm
    simp only [fpN, List.mem_cons, List.mem_append, List.mem_flatMap] at hm
    rcases hm with rfl | hm | ⟨y, hy, hm⟩
    · exact hx.own.ne hb' (by decide) hk
    · exact hr'.apart hx.own (by decide) k hk hm
    · obtain ⟨j, hj, rfl⟩ := List.mem_iff_getElem.1 hy
      rw [List.length_eraseIdx, if_pos hi] at hj
      rw [List.getElem_eraseIdx] at hm
      split at hm
      · have := List.pairwise_iff_getElem.1 h.far j i (by omega) hi (by omega)
        exact this k hm hk
      · have := List.pairwise_iff_getElem.1 h.far i (j + 1) hi (by omega) (by omega)
        exact this k hk hm
  · have e1 : Upd (fpN g A l) (fpN g A l) w w1 := hu1.mono (fun k hk => by cases hk) (fun k hk => .inr (.inl hk))
    have e2 : Upd (fpN g A l) (fpN g A' (l.eraseIdx i)) w1 w2 := hu2.mono (fun k hk => by simp [fpN, hk]) (fun k hk => by
      simp only [fpN, List.mem_cons, List.mem_append, List.mem_flatMap] at hk
      rcases hk with rfl | hk | ⟨y, hy, hk⟩
      · exact .inr (.inl (by simp [fpN]))
      · exact .inl hk
      · exact .inr (.inl (by simp only [fpN, List.mem_cons, List.mem_append, List.mem_flatMap]; exact .inr (.inr ⟨y, hmem y hy, hk⟩))))
    exact (e1.trans e2).setCell (.inl (by simp [fpN])) _

/-- What Take tells. -/
def Took13 (i : Nat) (x : Pk) (w : World) (g : Nat) (A : Option Addr) (l : List Pk) (e : Ending) (w' : World) : Prop :=
  ∃ A' n' c', e = .returned (.tuple #[.int .i64 x.to, .slice x.A x.n x.c, .bool true]) ∧ NetS w' g A' n' c' (l.eraseIdx i) ∧ OwnB 5 w' x.A x.n x.c x.b ∧ (∀ k ∈ ablk x.A, k ∉ fpN g A' (l.eraseIdx i)) ∧ Upd (fpN g A l) (fpN g A' (l.eraseIdx i)) w w'

set_option maxRecDepth 100000 in
set_option maxHeartbeats 4000000 in
theorem netTake (w : World) (g : Nat) (A : Option Addr) (n c : Nat) (l : List Pk) (h : NetS w g A n c l) (i : Nat) (hi : i < l.length) (x : Pk) (hx : l[i] = x) :
    Calls Tryd.prog 55 #[.pointer (some ⟨g, 0, none⟩), .int .i64 (i : Int)] w (Took13 i x w g A l) := by
  have hn := h.len
  have hl5 : l.length ≤ 5000 := Nat.le_trans h.le (by decide)
  have hin : (i : Int) < (n : Int) := by omega
  have ht : thereB l.length (i : Int) = true := by unfold thereB; simp; omega
  have C := netThere w g A n c l h (i : Int)
  rw [ht] at C
  have q := h.blk.cell 0
  simp only [List.getElem?_toArray, List.getElem?_cons_zero] at q
  obtain ⟨ad, rfl, p0, p1⟩ := h.row.at_ hi
  rw [hx] at p0 p1
  have hgl := h.blk.lt
  have hnc : (n : Int) ≤ (c : Int) := by have := h.row.le; omega
  have hic : (i : Int) ≤ (c : Int) := by omega
  have hi1 : (i : Int) + 1 ≤ (n : Int) := by omega
  have hw1 : IntKind.i64.wrap ((i : Int) + 1) = (i : Int) + 1 := by rw [IntKind.wrap_i64]; omega
  have hi0 : (0 : Int) ≤ (i : Int) + 1 := by omega
  clear ht hn
  go_enter Tryd.func55, Tryd.ntmps55
  repeat' ((fail_if_success (with_reducible refine stop_append rfl ?_)); (fail_if_success (with_reducible refine stop_copy rfl ?_)); first | go_values | go_skip | go_guarded | go_step | go_upon | (simp only []; go_at_K))
  ((with_reducible refine C.mono ?_); rintro e w1 ⟨rfl, rfl⟩)
  repeat' ((fail_if_success (with_reducible refine stop_append rfl ?_)); (fail_if_success (with_reducible refine stop_copy rfl ?_)); first | go_values | go_skip | go_guarded | go_step | go_upon | (simp only []; go_at_K))
  have hT := Blk.new w 163 #[.int .i64 x.to, .slice x.A x.n x.c]
  have U1 : Upd [] [] w (w.alloc (.cells #[.int .i64 x.to, .slice x.A x.n x.c] 163)) := (Upd.refl _ _).alloc _
  obtain ⟨W, hW⟩ : ∃ W, w.alloc (.cells #[.int .i64 x.to, .slice x.A x.n x.c] 163) = W := ⟨_, rfl⟩
  rw [hW] at hT U1 ⊢
  clear hW p0 p1 C q
  have hd := h.upd0 U1.drew
  have hTd : Blk W.drew w.heap.size 163 #[.int .i64 x.to, .slice x.A x.n x.c] := hT
  have q' := hd.blk.cell 0
  simp only [List.getElem?_toArray, List.getElem?_cons_zero] at q'
  obtain ⟨A2, hA2⟩ : ∃ A2, (if c = i + 1 then some ad else some (ad.add ((i + 1) * 2))) = A2 := ⟨_, rfl⟩
  obtain ⟨A3, c3, w3, hrun, hr3, hu3⟩ := hd.row.del hi hl5 158 A2 (by rw [← hA2]; rfl) (c - (i + 1))
  have hb3 := hd.blk.upd hu3 (hd.row.ne hd.blk (by decide))
  obtain ⟨q3, f3⟩ := hb3.c1
  have hT3 := hTd.upd hu3 (fun hm => Nat.lt_irrefl _ (h.row.lt _ hm))
  obtain ⟨⟨t0, t1⟩, -⟩ := hT3.c2
  go_region_law (refine step_run rfl (.tmp 26) (.tmp 33) 158 rfl (.slice (some ad) i i) (.slice A2 (n - (i + 1)) (c - (i + 1))) _ w3 rfl rfl hrun ?_)
  all_goals
    have P := h.pull hi U1.drew hr3 hu3
    have hset : Upd [g] [g] w3 (w3.setCell ⟨g, 0, none⟩ (.slice A3 (n - 1) c3)) := (Upd.refl _ _).setCell (.inl (by simp)) _
    have T4 := hT3.upd hset (by simp; omega)
    clear hset
    rw [hx] at P
    obtain ⟨W4, hW4⟩ : ∃ W4, w3.setCell ⟨g, 0, none⟩ (.slice A3 (n - 1) c3) = W4 := ⟨_, rfl⟩
    rw [hW4] at P T4 ⊢
    clear hW4 q3 f3 t0 t1 q' hrun hr3 hu3 hb3 hd hT hTd hT3 U1
    obtain ⟨⟨t0, t1⟩, -⟩ := T4.c2
  all_goals (repeat' ((fail_if_success (with_reducible refine stop_append rfl ?_)); (fail_if_success (with_reducible refine stop_copy rfl ?_)); first | go_values | go_skip | go_guarded | go_step | go_upon | (simp only []; go_at_K)))
  all_goals go_quiet (fail)
  all_goals (repeat' ((fail_if_success (with_reducible refine stop_append rfl ?_)); (fail_if_success (with_reducible refine stop_copy rfl ?_)); first | go_values | go_skip | go_guarded | go_step | go_upon | (simp only []; go_at_K)))
  all_goals go_ret3
  all_goals exact ⟨A3, _, c3, rfl, P.1.upd0 ((Upd.refl [] W4).drewN _), P.2.1.upd ((Upd.refl [] W4).drewN _) (by simp), P.2.2.1, P.2.2.2.drewN _⟩
end Go.Proofs.YtdmkhmejpgjioaaDoor
