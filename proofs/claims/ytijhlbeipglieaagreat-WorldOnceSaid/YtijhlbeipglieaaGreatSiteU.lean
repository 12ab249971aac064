/- Layer 23: Frontier, Top, Held, Disk, State. -/
import Derived.Test.YtijhlbeipglieaaGreatPkSu
namespace Agio
open Go
theorem frontG_map {α β : Type} (f : α → β) (L : AL α) : ∀ k s, frontG (mapG f L) k s = frontG L k s
  | 0, _ => rfl
  | k + 1, s => by
    unfold frontG
    rw [lookG_map, Option.isSome_map, frontG_map f L k (s + 1)]
theorem topG_map {α β : Type} (f : α → β) (L : AL α) : topG (mapG f L) = topG L := by
  unfold topG mapG
  rw [List.foldl_map]
end Agio
namespace Go.Proofs.YtijhlbeipglieaaGreat
open Go.RowKit Agio Go.Maps

theorem SiteV.front_pl (M : SiteV) : M.pl.front = frontG M.lv (4096 - M.taken) M.taken := frontG_map Bsl.b M.lv _ _
theorem SiteV.top_pl (M : SiteV) : M.pl.topA = max M.top (topG M.lv) := by
  unfold Site.topA
  show max M.top (topG (mapG Bsl.b M.lv)) = _
  rw [topG_map]

variable [Ban]
set_option maxRecDepth 100000 in
theorem siteFrontier (w : World) (M : SiteV) (h : SiteS w M) : Calls Tryz.prog 28 #[M.ptr] w fun e w' => e = .returned (.int .i64 (M.pl.front : Int)) ∧ w = w' := by
  have C := learnFrontier w M.gl M.bl M.lv M.taken h.lrn
  rw [← SiteV.front_pl] at C
  have q7 : w.cell? ⟨M.gs, 7, none⟩ = some (.pointer (some ⟨M.gl, 0, none⟩)) := h.blk.cell 7
  rw [SiteV.ptr]
  clear h
  go_enter Tryz.func28, Tryz.ntmps28
  repeat' (first | go_values | go_skip | go_guarded | go_step | go_upon | (simp only []; go_at_K))
  ((with_reducible refine C.mono ?_); rintro e w1 ⟨rfl, rfl⟩)
  repeat' (first | go_values | go_skip | go_guarded | go_step | go_upon | (simp only []; go_at_K))
  go_ret
  exact ⟨rfl, rfl⟩
set_option maxRecDepth 100000 in
set_option maxHeartbeats 2000000 in
theorem siteTop (w : World) (M : SiteV) (h : SiteS w M) : Calls Tryz.prog 36 #[M.ptr] w fun e w' => e = .returned (.int .i64 M.pl.topA) ∧ Upd [] [] w w' := by
  have C := learnTop w.drew M.gl M.bl M.lv M.taken (h.drew.lrn)
  rw [SiteV.top_pl]
  have q7 : w.drew.cell? ⟨M.gs, 7, none⟩ = some (.pointer (some ⟨M.gl, 0, none⟩)) := h.blk.cell 7
  have q6 : w.drew.cell? ⟨M.gs, 6, none⟩ = some (.int .i64 M.top) := h.blk.cell 6
  have u0 : Upd [] [] w w.drew := (Upd.refl [] w).drew
  rw [SiteV.ptr]
  clear h
  go_enter Tryz.func36, Tryz.ntmps36
  repeat' (first | go_values | go_skip | go_guarded | go_step | go_upon | (simp only []; go_at_K))
  go_region_with (first | (go_at_call 100; (with_reducible refine C.mono ?_); rintro e w1 ⟨rfl, u1⟩; have q6b := u1.cell q6 (by simp)))
  all_goals (repeat' (first | go_values | go_skip | go_guarded | go_step | go_upon | (simp only []; go_at_K)))
  all_goals go_ret
  all_goals exact ⟨by rw [← show (if M.top < topG M.lv then topG M.lv else M.top) = max M.top (topG M.lv) by split <;> omega]; rfl, u0.trans u1⟩
end Go.Proofs.YtijhlbeipglieaaGreat
