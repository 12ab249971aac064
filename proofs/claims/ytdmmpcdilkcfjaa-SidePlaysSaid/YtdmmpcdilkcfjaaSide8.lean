/- A side in memory: an order cut, and dropped. -/
import Derived.Test.YtdmmpcdilkcfjaaSide4
namespace Go.Proofs.Ytdmmpcdilkcfjaa
open Go.RowKit Agio Go.Maps

/-- As many entries as orders. -/
theorem ordM_len {M : KV} {L : List Ord} (hu : Agio.Up (keysK M)) (hk : ∀ i, lookK i M = (findO i L).map Ord.val) (hn : (L.map Ord.id).Nodup) : M.length = L.length := by
  have h1 := nodup_len (a := keysK M) (b := L.map Ord.id) (up_nodup hu) (fun i hi => by
    rw [mem_keysK, hk] at hi
    obtain ⟨o, ho⟩ := Option.isSome_iff_exists.1 (by simpa using hi)
    obtain ⟨ho, e⟩ := findO_some ho
    exact List.mem_map.2 ⟨o, ho, e⟩)
  have h2 := nodup_len (a := L.map Ord.id) (b := keysK M) hn (fun i hi => by
    obtain ⟨o, ho, rfl⟩ := List.mem_map.1 hi
    rw [mem_keysK, hk, findO_mem hn ho]; rfl)
  simp only [keysK, List.length_map] at h1 h2
  omega
theorem mapI_up {w : World} {b : Nat} {M : KV} (h : MapI Try.prog 2 w b M) : Agio.Up (keysK M) := by
  unfold Agio.Up keysK
  rw [List.pairwise_map]
  exact h.sorted (int_keyed Try.underlying2)
theorem cut_its (id q : Int) (L : List Ord) : (cutO id q L).map itO = cutQ id q (L.map itO) := by
  unfold cutO cutQ
  rw [List.map_map, List.map_map]
  refine List.map_congr_left fun o _ => ?_
  simp only [Function.comp, itO]
  split <;> simp_all
theorem drop_its (id : Int) (L : List Ord) : (dropO id L).map itO = dropQ id (L.map itO) := by
  unfold dropO dropQ
  rw [List.filter_map]
  rfl
theorem OrdM.cut_ {w : World} {b : Nat} {M : KV} {L : List Ord} {o : Ord} {q : Int} (hM : MapI Try.prog 2 w b (putK o.id ({ o with qty := q } : Ord).val M)) (hk : ∀ i, lookK i M = (findO i L).map Ord.val) (hf : findO o.id L = some o) (hn : (L.map Ord.id).Nodup) : OrdM w b (cutO o.id q L) := by
  have hk' : ∀ i, lookK i (putK o.id ({ o with qty := q } : Ord).val M) = (findO i (cutO o.id q L)).map Ord.val := fun i => by
    rw [lookK_put, findO_cut, hk]
    by_cases e : o.id = i
    · subst e; rw [if_pos rfl, hf]; simp
    · rw [if_neg e]
      cases hi : findO i L with
      | none => rfl
      | some x =>
        have hx : ¬ x.id = o.id := fun e2 => e ((findO_some hi).2 ▸ e2.symm)
        simp [hx]
  exact ⟨_, hM, ordM_len (mapI_up hM) hk' (by rw [cutO_ids]; exact hn), hk'⟩
theorem OrdM.drop_ {w : World} {b : Nat} {M : KV} {L : List Ord} {id : Int} (hM : MapI Try.prog 2 w b (delK id M)) (hk : ∀ i, lookK i M = (findO i L).map Ord.val) (hn : (L.map Ord.id).Nodup) : OrdM w b (dropO id L) := by
  have hk' : ∀ i, lookK i (delK id M) = (findO i (dropO id L)).map Ord.val := fun i => by
    rw [lookK_del, findO_drop, hk]
    split <;> rfl
  exact ⟨_, hM, ordM_len (mapI_up hM) hk' (List.Nodup.sublist (List.Sublist.map _ List.filter_sublist) hn), hk'⟩
theorem RowM.del_ {w : World} {K : KV} {b : Nat} {R : List Rw} {p : Int} (hK : MapI Try.prog 2 w b (delK p K)) (hk : ∀ q, lookK q K = (rowR q R).map Rw.val) : RowM w b (delR p R) := by
  refine ⟨_, hK, fun q => ?_⟩
  rw [lookK_del, rowR_del, hk]
  split <;> rfl
/-- The rows' map where a row's queue has turned, but not its place. -/
theorem RowM.same_ {w : World} {K : KV} {b : Nat} {R : List Rw} {r r' : Rw} (hK : MapI Try.prog 2 w b K) (hk : ∀ q, lookK q K = (rowR q R).map Rw.val) (hr : rowR r.p R = some r) (hp : r'.p = r.p) (hg : r'.g = r.g) : RowM w b (setR r' R) := by
  refine ⟨_, hK, fun q => ?_⟩
  rw [rowR_set, hk]
  split
  · rename_i e; rw [← e, hp, hr]; simp [Rw.val, hg]
  · rfl

section
variable {w w1 w2 w3 : World} {g bo br : Nat} {s : Int} {R : List Rw} {L L' : List Ord} {X : List Nat} {p : Int}
theorem SideS.rowOf (h : SideS w g s bo br R L) {o : Ord} (ho : o ∈ L) : ∃ r ∈ R, r.p = o.price ∧ rowR o.price R = some r := by
  obtain ⟨r, hr, e⟩ := h.all o ho
  exact ⟨r, hr, e, by rw [← e]; exact rowR_mem h.ps hr⟩
theorem atP_noId (h : SideS w g s bo br R L) {o : Ord} (ho : o ∈ L) (hp : p ≠ o.price) : ∀ x ∈ atP p L, x.id ≠ o.id := fun x hx e => by
  obtain ⟨hx, hxp⟩ := List.mem_filter.1 hx
  have := nodup_mem_inj h.sd.ids hx ho e
  subst this
  exact hp (by simpa using hxp : x.price = p).symm
/-- A side with less of an order. -/
theorem SideS.cut (h : SideS w g s bo br R L) {o : Ord} (ho : o ∈ L) {q : Int} (h1 : 1 ≤ q) (h2 : q ≤ 1073741824) {r : Rw} (hr : r ∈ R) (hrp : r.p = o.price)
    (hu1 : Upd r.fp r.fp w w1) (hq : QuS w1 r.g r.A r.n r.c (cutQ o.id q ((atP o.price L).map itO))) (ho2 : OrdM w2 bo (cutO o.id q L)) (hu2 : Upd [bo] [bo] w1 w2) :
    SideS w2 g s bo br R (cutO o.id q L) ∧ Upd (fpS g bo br R) (fpS g bo br R) w w2 := by
  have hX : RowAt o.price R r.fp := .inl ⟨r, hr, hrp, rfl⟩
  obtain ⟨a1, a2, a3, -, -⟩ := h.apart hX
  obtain ⟨K, hK, hKl⟩ := h.rows
  obtain ⟨M, hM, -⟩ := h.ords
  have hM1 := hM.upd hu1 a2
  have hK2 := (hK.upd hu1 a3).upd hu2 (by simpa using h.bs.symm)
  have keep : ∀ {x : Rw} {l : Its}, QuS w1 x.g x.A x.n x.c l → QuS w2 x.g x.A x.n x.c l := fun {x l} hq => by
    have n1 := hq.notMap hM1
    exact hq.upd hu2 (fun k hk => by simp; rintro rfl; exact n1 hk)
  refine ⟨⟨(h.blk.upd hu1 a1).upd hu2 (by simpa using h.gbo), ho2, ⟨K, hK2, hKl⟩, fun x hx => ?_, fun x hx => ?_, h.ps, h.far, h.bs, h.sd.cut h1 h2, h.side, fun x hx => by
    obtain ⟨y, hy, rfl⟩ := List.mem_map.1 hx
    have := h.wf y hy
    split <;> exact this⟩, ?_⟩
  · rw [atP_cut]
    by_cases e : x.p = o.price
    · obtain rfl := rowR_inj h.ps hx hr (e.trans hrp.symm)
      rw [hrp, cut_its]
      exact ⟨keep hq, fun hn => (h.each x hx).2 (by rw [hrp]; exact List.map_eq_nil_iff.1 hn)⟩
    · rw [cutO_none (atP_noId h ho e)]
      exact ⟨keep (h.others hX hu1 hx e).1, (h.each x hx).2⟩
  · obtain ⟨y, hy, rfl⟩ := List.mem_map.1 hx
    obtain ⟨r', hr', e⟩ := h.all y hy
    refine ⟨r', hr', ?_⟩
    split <;> exact e
  · exact (hu1.wide (SideS.fpIn hX)).trans (hu2.wide (by simp [fpS]))
/-- A side with an order less, where others are left at its price. -/
theorem SideS.drop (h : SideS w g s bo br R L) {o : Ord} (ho : o ∈ L) {r r' : Rw} (hr : r ∈ R) (hrp : r.p = o.price) (hrp' : r'.p = o.price)
    (hu1 : Upd r.fp r'.fp w w1) (hq : QuS w1 r'.g r'.A r'.n r'.c (dropQ o.id ((atP o.price L).map itO))) (hne : dropQ o.id ((atP o.price L).map itO) ≠ []) (hr2 : RowM w2 br (setR r' R)) (ho2 : OrdM w2 bo (dropO o.id L)) (hu2 : Upd [bo] [bo] w1 w2) :
    SideS w2 g s bo br (setR r' R) (dropO o.id L) ∧ Upd (fpS g bo br R) (fpS g bo br (setR r' R)) w w2 := by
  have hX : RowAt o.price R r.fp := .inl ⟨r, hr, hrp, rfl⟩
  obtain ⟨a1, a2, a3, -, -⟩ := h.apart hX
  obtain ⟨M, hM, -⟩ := h.ords
  have hM1 := hM.upd hu1 a2
  have keep : ∀ {x : Rw} {l : Its}, QuS w1 x.g x.A x.n x.c l → QuS w2 x.g x.A x.n x.c l := fun {x l} hq => by
    have n1 := hq.notMap hM1
    exact hq.upd hu2 (fun k hk => by simp; rintro rfl; exact n1 hk)
  refine ⟨⟨(h.blk.upd hu1 a1).upd hu2 (by simpa using h.gbo), ho2, hr2, fun x hx => ?_, fun x hx => ?_, ?_, ?_, h.bs, h.sd.drop, h.side, fun x hx => h.wf x (List.mem_filter.1 hx).1⟩, ?_⟩
  · rw [atP_drop]
    rcases mem_setR.1 hx with ⟨hx, hne2⟩ | rfl
    · rw [hrp'] at hne2
      rw [dropO_none (atP_noId h ho hne2)]
      exact ⟨keep (h.others hX hu1 hx hne2).1, (h.each x hx).2⟩
    · rw [hrp', drop_its]
      refine ⟨keep hq, fun hn => hne ?_⟩
      rw [← drop_its, hn]; rfl
  · obtain ⟨hx, -⟩ := List.mem_filter.1 hx
    obtain ⟨y, hy, hyp⟩ := h.all x hx
    by_cases e : y.p = r'.p
    · exact ⟨r', mem_setR.2 (.inr rfl), e.symm.trans hyp⟩
    · exact ⟨y, mem_setR.2 (.inl ⟨hy, e⟩), hyp⟩
  · show ((delR r'.p R ++ [r']).map Rw.p).Nodup
    rw [List.map_append, List.nodup_append]
    refine ⟨List.Nodup.sublist (List.Sublist.map _ List.filter_sublist) h.ps, by simp, fun a ha b hb e => ?_⟩
    obtain ⟨x, hx, rfl⟩ := List.mem_map.1 ha
    simp at hb
    exact (mem_delR.1 hx).2 (e.trans hb)
  · show (delR r'.p R ++ [r']).Pairwise _
    refine List.pairwise_append.2 ⟨List.Pairwise.filter _ h.far, List.pairwise_singleton _ _, fun x hx y hy => ?_⟩
    obtain rfl := List.mem_singleton.1 hy
    obtain ⟨hx, hne2⟩ := mem_delR.1 hx
    exact (h.others hX hu1 hx (by rw [← hrp']; exact hne2)).2
  · have e1 : Upd (fpS g bo br R) (fpS g bo br (setR r' R)) w w1 := hu1.mono (SideS.fpIn hX) (fun k hk => by
      simp only [fpS, List.mem_cons, List.mem_flatMap] at hk
      rcases hk with rfl | rfl | rfl | ⟨x, hx, hk⟩
      · exact .inr (.inl (by simp [fpS]))
      · exact .inr (.inl (by simp [fpS]))
      · exact .inr (.inl (by simp [fpS]))
      · rcases mem_setR.1 hx with ⟨hx, _⟩ | rfl
        · exact .inr (.inl (by simp only [fpS, List.mem_cons, List.mem_flatMap]; exact .inr (.inr (.inr ⟨x, hx, hk⟩))))
        · exact .inl hk)
    exact e1.trans (hu2.wide (by simp [fpS]))
/-- A side with an order less, the last one at its price. -/
theorem SideS.dropLast (h : SideS w g s bo br R L) {o : Ord} (ho : o ∈ L) {r : Rw} (hr : r ∈ R) (hrp : r.p = o.price) {Y : List Nat}
    (hu1 : Upd r.fp Y w w1) (hne : dropQ o.id ((atP o.price L).map itO) = []) (hr2 : RowM w2 br (delR o.price R)) (hu2 : Upd [br] [br] w1 w2) (ho3 : OrdM w3 bo (dropO o.id L)) (hu3 : Upd [bo] [bo] w2 w3) :
    SideS w3 g s bo br (delR o.price R) (dropO o.id L) ∧ Upd (fpS g bo br R) (fpS g bo br (delR o.price R)) w w3 := by
  have hX : RowAt o.price R r.fp := .inl ⟨r, hr, hrp, rfl⟩
  obtain ⟨a1, a2, a3, -, -⟩ := h.apart hX
  obtain ⟨K, hK, -⟩ := h.rows
  obtain ⟨M, hM, -⟩ := h.ords
  have hK1 := hK.upd hu1 a3
  have hM2 := (hM.upd hu1 a2).upd hu2 (by simpa using h.bs)
  have keep : ∀ {x : Rw} {l : Its}, QuS w1 x.g x.A x.n x.c l → QuS w3 x.g x.A x.n x.c l := fun {x l} hq => by
    have n1 := hq.notMap hK1
    have h2 := hq.upd hu2 (fun k hk => by simp; rintro rfl; exact n1 hk)
    have n2 := h2.notMap hM2
    exact h2.upd hu3 (fun k hk => by simp; rintro rfl; exact n2 hk)
  have hR3 := hr2.upd hu3 (by simpa using h.bs.symm)
  refine ⟨⟨((h.blk.upd hu1 a1).upd hu2 (by simpa using h.gbr)).upd hu3 (by simpa using h.gbo), ho3, hR3, fun x hx => ?_, fun x hx => ?_, List.Nodup.sublist (List.Sublist.map _ List.filter_sublist) h.ps, List.Pairwise.filter _ h.far, h.bs, h.sd.drop, h.side, fun x hx => h.wf x (List.mem_filter.1 hx).1⟩, ?_⟩
  · obtain ⟨hx, hne2⟩ := mem_delR.1 hx
    rw [atP_drop, dropO_none (atP_noId h ho hne2)]
    exact ⟨keep (h.others hX hu1 hx hne2).1, (h.each x hx).2⟩
  · obtain ⟨hxL, hxid⟩ := List.mem_filter.1 hx
    obtain ⟨y, hy, hyp⟩ := h.all x hxL
    refine ⟨y, mem_delR.2 ⟨hy, fun e => ?_⟩, hyp⟩
    have : itO x ∈ dropQ o.id ((atP o.price L).map itO) := List.mem_filter.2 ⟨List.mem_map.2 ⟨x, List.mem_filter.2 ⟨hxL, by simp [← hyp, e]⟩, rfl⟩, hxid⟩
    rw [hne] at this
    cases this
  · have e1 : Upd (fpS g bo br R) (fpS g bo br (delR o.price R)) w w1 := (hu1.gives (b' := []) (by simp)).mono (SideS.fpIn hX) (fun k hk => by
      simp only [fpS, List.mem_cons, List.mem_flatMap] at hk
      rcases hk with rfl | rfl | rfl | ⟨x, hx, hk⟩
      · exact .inr (.inl (by simp [fpS]))
      · exact .inr (.inl (by simp [fpS]))
      · exact .inr (.inl (by simp [fpS]))
      · obtain ⟨hx, _⟩ := mem_delR.1 hx
        exact .inr (.inl (by simp only [fpS, List.mem_cons, List.mem_flatMap]; exact .inr (.inr (.inr ⟨x, hx, hk⟩)))))
    exact (e1.trans (hu2.wide (by simp [fpS]))).trans (hu3.wide (by simp [fpS]))
end
end Go.Proofs.Ytdmmpcdilkcfjaa
