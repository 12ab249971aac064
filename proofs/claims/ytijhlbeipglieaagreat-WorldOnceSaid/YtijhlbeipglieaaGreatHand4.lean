/- Layer 23: a promise more in a round. -/
import Derived.Test.YtijhlbeipglieaaGreatPkProp
namespace Go.Proofs.YtijhlbeipglieaaGreat
open Go.RowKit Agio Go.Maps

theorem infoProm : (Tryz.prog.info? 340).map (fun i => (i.zero, i.size, i.bytes)) = some (some (.agg #[.int .i64 0, .bool false, .int .i64 0, .int .i64 0, .slice none 0 0]), 5, 56) := by kernel_rfl
variable [Ban]
theorem SiteS.prom {w : World} {M : SiteV} (h : SiteS w M) {x : Int} {r : RnV} (hl : lookG x M.rs = some r) (q : PmV) (hq : BytS w q.s ∧ ∀ k ∈ ablk q.s.A, k ∉ M.bans) (hql : q.s.b.length ≤ 2048) (hv : r.pr.length ≤ 1000000000) :
    ∃ A' c' w3, (Builtin.append_ #[129, 129] 129 #[.slice r.PA r.pr.length r.pc, .slice (some ⟨w.heap.size, 0, none⟩) 1 1]).run Tryz.prog (w.alloc (.cells #[.int .i64 q.f, .bool q.so, .int .i64 q.at_.r, .int .i64 q.at_.s, .slice q.s.A q.s.n q.s.c] 340)) = .ok (.slice A' (r.pr.length + 1) c') w3 ∧
      Upd (ablk r.PA) (ablk A') w w3 ∧ w3.cell? ⟨r.g, 2, none⟩ = some (.slice r.PA r.pr.length r.pc) ∧ w3.frozen? ⟨r.g, 2, none⟩ = false ∧
      SiteS (w3.setCell ⟨r.g, 2, none⟩ (.slice A' (r.pr.length + 1) c')) { M with rs := putG x { r with PA := A', pc := c', pr := r.pr ++ [q] } M.rs } ∧
      Upd M.fp ({ M with rs := putG x { r with PA := A', pc := c', pr := r.pr ++ [q] } M.rs } : SiteV).fp w (w3.setCell ⟨r.g, 2, none⟩ (.slice A' (r.pr.length + 1) c')) := by
  have hmem := lookG_some hl
  have h1 := h.upd0 ((Upd.refl [] w).alloc (.cells #[.int .i64 q.f, .bool q.so, .int .i64 q.at_.r, .int .i64 q.at_.s, .slice q.s.A q.s.n q.s.c] 340))
  have hR := h.rds _ hmem
  have hR1 := h1.rds _ hmem
  obtain ⟨A', c', w3, hrun, ho, hu⟩ := run_app (P := Tryz.prog) _ 129 129 340 Tryz.underlying129 infoProm rfl (by decide) r.PA r.pr.length r.pc _ hR1.prs (some ⟨w.heap.size, 0, none⟩) 1 1 (PmV.cells q) (Rd.blk (Blk.new _ _ _) rfl)
    (by intro u hu; simp only [PmV.cells, List.mem_cons, List.not_mem_nil, or_false] at hu; rcases hu with rfl | rfl | rfl | rfl | rfl <;> rfl) (by unfold maxLen; omega) (by omega)
  have hg : r.g ∉ ablk r.PA := tag_off hR1.tg hR1.tP (by decide)
  have hb3 := hR1.blk.upd hu hg
  have U : Upd (ablk r.PA) (ablk A') w w3 := ((Upd.refl (ablk r.PA) w).alloc _).trans hu
  have u4 : Upd [r.g] [r.g] w3 (w3.setCell ⟨r.g, 2, none⟩ (.slice A' (r.pr.length + 1) c')) := (Upd.refl [r.g] w3).setCell (p := ⟨r.g, 2, none⟩) (.inl (by simp)) _
  have U4 : Upd (r.g :: ablk r.PA) (r.g :: ablk A') w (w3.setCell ⟨r.g, 2, none⟩ (.slice A' (r.pr.length + 1) c')) :=
    (U.mono (a' := r.g :: ablk r.PA) (b' := r.g :: ablk A') (fun k hk => List.mem_cons_of_mem _ hk) (fun k hk => by
      rcases List.mem_cons.1 hk with rfl | hk
      · exact .inr (.inl (by simp))
      · exact .inl hk)).trans (u4.mono (a' := r.g :: ablk A') (b' := r.g :: ablk A') (by simp) (fun k hk => .inr (.inl hk)))
  have ho' : Own 340 5 w3 A' (r.pr.length + 1) c' ((r.pr ++ [q]).flatMap PmV.cells) := by rw [List.flatMap_append, List.flatMap_cons, List.flatMap_nil, List.append_nil]; exact ho
  have hgA' : ∀ k ∈ ablk A', k ∉ [r.g] := fun k hk hm => by
    rw [List.mem_singleton] at hm; subst hm
    exact tag_ne (ho'.tag _ hk) hb3.tag (by decide) rfl
  refine ⟨A', c', w3, hrun, U, hb3.cell 2, hb3.frozen 2, ?_⟩
  refine h.setR hl { r with PA := A', pc := c', pr := r.pr ++ [q] } rfl (X := r.g :: ablk r.PA) (fun k hk => ?_) U4 ⟨?_, ?_, ?_⟩ (fun k hk => ?_) (fun k hk => .inl hk) (fun y hy => ?_) ?_
  · simp only [RnV.fp, List.mem_cons, List.mem_append] at hk ⊢
    rcases hk with h1 | h1
    · exact .inl h1
    · exact .inr (.inl h1)
  · have := hb3.set_ 2 (.slice A' (r.pr.length + 1) c')
    simpa using this
  · have := ho'.upd u4 hgA'
    simpa using this
  · refine (hR.vts.upd U (tag_offs hR.tV hR.tP (by decide))).upd u4 (fun k hk hm => ?_)
    rw [List.mem_singleton] at hm; subst hm
    exact tag_ne (hR.tV _ hk) hR.tg (by decide) rfl
  · rcases U.fresh k hk with h1 | h1
    · exact .inl h1
    · exact .inr h1
  · simp only [RnV.bytes, List.map_append, List.map_cons, List.map_nil, List.mem_cons, List.mem_append, List.not_mem_nil, or_false] at hy
    rcases hy with rfl | hy | rfl
    · exact h.rsByt hmem (by simp [RnV.bytes])
    · exact h.rsByt hmem (by simp only [RnV.bytes, List.mem_cons]; exact .inr hy)
    · exact hq
  · have := (h.ok.rs (x, r.pl) (List.mem_map.2 ⟨_, hmem, rfl⟩)).2.2
    refine ⟨this.1, this.2.1, fun p hp => ?_⟩
    simp only [RnV.pl, List.map_append, List.map_cons, List.map_nil, List.mem_append, List.mem_singleton] at hp
    rcases hp with hp | rfl
    · exact this.2.2 p hp
    · exact hql
end Go.Proofs.YtijhlbeipglieaaGreat
