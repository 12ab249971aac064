/- A net: (agio/net).Double, Take. -/
import Derived.Test.YtdmkhmejpgjioaaDoorNetM
set_option linter.all false
namespace Go.Proofs.YtdmkhmejpgjioaaDoor
open Go.RowKit Agio

theorem PkL.addr {w : World} {A : Option Addr} {n c : Nat} {l : List Pk} (h : PkL w A n c l) (hn : 0 < n) : ∃ g, A = some ⟨g, 0, none⟩ := by
  rcases h.row with h1 | h1
  · obtain ⟨g, cap, hv, _⟩ := World.ownsRow.form h1 hn
    injection hv with hA
    exact ⟨g, hA⟩
  · obtain ⟨g, _, hA, _⟩ := h1.blk
    exact ⟨g, hA⟩
theorem PkL.at_ {w : World} {A : Option Addr} {n c : Nat} {l : List Pk} (h : PkL w A n c l) {i : Nat} (hi : i < l.length) : ∃ ad, A = some ad ∧ w.cell? (ad.add (i * 2)) = some (.int .i64 l[i].to) ∧ w.cell? ⟨(ad.add (i * 2)).block, (ad.add (i * 2)).off + 1, none⟩ = some (.slice l[i].A l[i].n l[i].c) := by
  obtain ⟨ad, e, h0, hj⟩ := h.rdS.at_ Pk.cells_len hi
  exact ⟨ad, e, h0 _ rfl, hj 1 _ (by omega) rfl⟩
set_option maxRecDepth 100000 in
/-- One packet taken out. -/
theorem PkL.del {w : World} {A : Option Addr} {n c : Nat} {l : List Pk} (h : PkL w A n c l) {i : Nat} (hi : i < l.length) (hl : l.length ≤ 5000) (ty : TypeId) (A2 : Option Addr) (hA2 : A2 = if c = i + 1 then A else A.map (fun x => x.add ((i + 1) * 2))) (d : Nat) :
    ∃ A' c' w', (Builtin.append_ #[158, 158] ty #[.slice A i i, .slice A2 (n - (i + 1)) d]).run Tryd.prog w = .ok (.slice A' (n - 1) c') w' ∧ PkL w' A' (n - 1) c' (l.eraseIdx i) ∧ Upd (ablk A) (ablk A') w w' := by
  have hn := h.len
  obtain ⟨g, rfl⟩ := h.addr (by omega)
  have hrd := h.rd
  obtain ⟨ad, e, hc⟩ := hrd.2 (by omega)
  injection e with e; subst e
  obtain ⟨ii, hii, hz, hsize, hby⟩ := info_parts infoPk
  have hle := h.le
  have holds : ∀ j u, ((l.take i).flatMap Pk.cells)[j]? = some u → w.cell? ((⟨g, 0, none⟩ : Addr).add j) = some u := by
    intro j u hu
    refine hc j u ?_
    have hsp : l.flatMap Pk.cells = (l.take i).flatMap Pk.cells ++ (l.drop i).flatMap Pk.cells := by rw [← List.flatMap_append, List.take_append_drop]
    rw [hsp, List.getElem?_append_left (by rcases Nat.lt_or_ge j ((l.take i).flatMap Pk.cells).length with h1 | h1; exact h1; rw [List.getElem?_eq_none h1] at hu; cases hu)]
    exact hu
  have hlt : ((l.take i).flatMap Pk.cells).length = i * 2 := by rw [flat_len Pk.cells_len, List.length_take]; congr 1; omega
  have he : l.eraseIdx i = l.take i ++ l.drop (i + 1) := List.eraseIdx_eq_take_drop_succ l i
  obtain ⟨cur, hcur⟩ := h.block g (by simp [ablk])
  by_cases hm : n - (i + 1) = 0
  · obtain ⟨ad2, hA2'⟩ : ∃ ad2, A2 = some ad2 := by rw [hA2]; split <;> exact ⟨_, rfl⟩
    subst hA2'
    have hrun := run_append_room_cells (P := Tryd.prog) w 158 ty 163 ii Tryd.underlying158 hii g 0 i i ad2 0 d [] (by simp) (by simp) (by simp) (by omega) (by simp) (by simp)
    refine ⟨some ⟨g, 0, none⟩, i, w, ?_, ⟨?_, .inr ⟨by omega, ⟨?_, fun _ => ⟨_, rfl, ?_⟩⟩, g, cur, rfl, hcur⟩⟩, Upd.refl _ _⟩
    · rw [hm, show n - 1 = i by omega]
      rw [Nat.add_zero] at hrun
      exact hrun
    · rw [List.length_eraseIdx, if_pos hi]; omega
    · rw [he, List.drop_of_length_le (by omega), List.append_nil, hlt]; omega
    · rw [he, List.drop_of_length_le (by omega), List.append_nil]; exact holds
  · have hcne : ¬ c = i + 1 := by omega
    rw [if_neg hcne] at hA2
    subst hA2
    have hnews : ∀ j u, ((l.drop (i + 1)).flatMap Pk.cells)[j]? = some u → w.cell? (((⟨g, 0, none⟩ : Addr).add ((i + 1) * 2)).add j) = some u := by
      intro j u hu
      rw [add_of_add]
      refine hc _ u ?_
      have hsp : l.flatMap Pk.cells = (l.take (i + 1)).flatMap Pk.cells ++ (l.drop (i + 1)).flatMap Pk.cells := by rw [← List.flatMap_append, List.take_append_drop]
      have hl1 : ((l.take (i + 1)).flatMap Pk.cells).length = (i + 1) * 2 := by rw [flat_len Pk.cells_len, List.length_take]; congr 1; omega
      rw [hsp, List.getElem?_append_right (by omega), hl1, Nat.add_sub_cancel_left]
      exact hu
    obtain ⟨v', w', hrun, ho, hgr⟩ := run_append_arg_grows (P := Tryd.prog) w 158 ty 163 ii _ 2 32 Tryd.underlying158 hii hz hsize hby rfl (by decide) ⟨g, 0, none⟩ i i _ hlt holds ((⟨g, 0, none⟩ : Addr).add ((i + 1) * 2)) (n - (i + 1)) d _ (by rw [flat_len Pk.cells_len, List.length_drop, hn]) hnews (by omega) (by unfold maxLen; omega) (by omega)
    obtain ⟨⟨A', c', rfl, ho'⟩, hbase⟩ := Own.of_row ho
    have hnn : i + (n - (i + 1)) = n - 1 := by omega
    rw [hnn] at hrun ho' hbase
    refine ⟨A', c', w', hrun, ⟨?_, .inl ?_⟩, ((Upd.refl _ w).grown hgr (fun k h => by cases h)).gives (fun k hk => .inr (hbase A' c' rfl (by omega) k hk))⟩
    · rw [List.length_eraseIdx, if_pos hi]; omega
    · rw [he, List.flatMap_append]; exact ho'

set_option maxRecDepth 100000 in
set_option maxHeartbeats 4000000 in
theorem netDouble (w : World) (g : Nat) (A : Option Addr) (n c : Nat) (l : List Pk) (h : NetS w g A n c l) (i : Nat) (hi : i < l.length) (hl : l.length < 4096) (hb : l[i].b.length ≤ 140737488355328) :
    Calls Tryd.prog 54 #[.pointer (some ⟨g, 0, none⟩), .int .i64 (i : Int)] w (Sent l[i].to l[i].b w g A l) := by
  have hn := h.len
  have hnl : (n : Int) < 4096 := by omega
  have hin : (i : Int) < (n : Int) := by omega
  have ht : thereB l.length (i : Int) = true := by unfold thereB; simp; omega
  have C := netThere w g A n c l h (i : Int)
  rw [ht] at C
  have q := h.blk.cell 0
  simp only [List.getElem?_toArray, List.getElem?_cons_zero] at q
  obtain ⟨ad, rfl, p0, p1⟩ := h.row.at_ hi
  have hx := h.each l[i] (List.getElem_mem hi)
  generalize l[i] = x at *
  have hgl := h.blk.lt
  clear hn ht hi
  go_enter Tryd.func54, Tryd.ntmps54
  repeat' ((fail_if_success (with_reducible refine stop_append rfl ?_)); (fail_if_success (with_reducible refine stop_copy rfl ?_)); first | go_values | go_skip | go_guarded | go_step | go_upon | (simp only []; go_at_K))
  ((with_reducible refine C.mono ?_); rintro e w1 ⟨rfl, rfl⟩)
  repeat' ((fail_if_success (with_reducible refine stop_append rfl ?_)); (fail_if_success (with_reducible refine stop_copy rfl ?_)); first | go_values | go_skip | go_guarded | go_step | go_upon | (simp only []; go_at_K))
  have hT := Blk.new w 163 #[.int .i64 x.to, .slice x.A x.n x.c]
  have U1 : Upd [] [] w (w.alloc (.cells #[.int .i64 x.to, .slice x.A x.n x.c] 163)) := (Upd.refl _ _).alloc _
  obtain ⟨W, hW⟩ : ∃ W, w.alloc (.cells #[.int .i64 x.to, .slice x.A x.n x.c] 163) = W := ⟨_, rfl⟩
  rw [hW] at hT U1 ⊢
  clear hW p0 p1 C q
  have hd := h.upd0 U1.drew
  have hx1 : RdB W.drew x.A x.n x.b := (hx.upd U1.drew (by simp)).rd
  have hTd : Blk W.drew w.heap.size 163 #[.int .i64 x.to, .slice x.A x.n x.c] := hT
  have q' := hd.blk.cell 0
  simp only [List.getElem?_toArray, List.getElem?_cons_zero] at q'
  obtain ⟨⟨t0, t1⟩, -⟩ := hTd.c2
  have hUd := U1.drew
  go_region_law (first
    | (go_simp; go_at_call 72; (with_reducible refine (bytesClone _ x.A x.n x.c x.b hx1 hb).mono ?_); rintro e w2 ⟨A2, k2, c2, rfl, ho2, hu2⟩; have q2 := hu2.cell q' (by simp); have s0 := hu2.cell t0 (by simp); have s1 := hu2.cell t1 (by simp); have h2 := hd.upd0 hu2; have hgl2 := h2.blk.lt; have hwl2 := (hTd.upd hu2 (by simp)).lt)
    | (obtain ⟨A3, c3, w3, hrun, hr3, hu3⟩ := (h2.row.alloc (.cells #[.int .i64 x.to, .slice A2 k2 c2] 163)).push ⟨x.to, A2, k2, c2, x.b⟩ w2.heap.size 1 1 (Blk.new _ _ _) (by omega) 158; have hb3 := (h2.blk.alloc (.cells #[.int .i64 x.to, .slice A2 k2 c2] 163)).upd hu3 (h2.row.ne h2.blk (by decide)); obtain ⟨q3, f3⟩ := hb3.c1; refine step_run rfl (.tmp 27) (.tmp 34) 158 rfl (.slice (some ad) n c) (.slice (some ⟨w2.heap.size, 0, none⟩) 1 1) _ w3 rfl rfl hrun ?_))
  all_goals (repeat' ((fail_if_success (with_reducible refine stop_append rfl ?_)); (fail_if_success (with_reducible refine stop_copy rfl ?_)); first | go_values | go_skip | go_guarded | go_step | go_upon | (simp only []; go_at_K)))
  all_goals go_ret
  all_goals
    have P := h.push (x := ⟨x.to, A2, k2, c2, x.b⟩) (hUd.trans hu2) ho2 hr3 (((Upd.refl (ablk (some ad)) w2).alloc _).trans hu3) hl
    exact ⟨A3, _, c3, ⟨x.to, A2, k2, c2, x.b⟩, rfl, rfl, rfl, P.1, P.2⟩
end Go.Proofs.YtdmkhmejpgjioaaDoor
