/- A side in memory: an order more; one cut; one less. -/
import Derived.Test.YtdmmpcdilkcfjaaSide3
namespace Go.Proofs.Ytdmmpcdilkcfjaa
open Go.RowKit Agio Go.Maps

/-- A row put in the place of its price's. -/
def setR (r : Rw) (R : List Rw) : List Rw := (R.filter fun x => !decide (x.p = r.p)) ++ [r]
def delR (p : Int) (R : List Rw) : List Rw := R.filter fun x => !decide (x.p = p)
theorem rowR_some {p : Int} {R : List Rw} {r : Rw} (h : rowR p R = some r) : r ∈ R ∧ r.p = p := by
  unfold rowR at h
  exact ⟨List.mem_of_find?_eq_some h, by simpa using List.find?_some h⟩
theorem rowR_none {p : Int} {R : List Rw} (h : rowR p R = none) : ∀ r ∈ R, r.p ≠ p := by
  unfold rowR at h
  intro r hr
  simpa using List.find?_eq_none.1 h r hr
theorem rowR_del {p q : Int} {R : List Rw} : rowR q (delR p R) = if q = p then none else rowR q R := by
  unfold rowR delR
  rw [List.find?_filter]
  split
  · rename_i e
    subst e
    rw [List.find?_eq_none]
    intro x _
    simp
  · rename_i e
    refine congrArg (fun f => List.find? f R) (funext fun x => ?_)
    by_cases h : x.p = q
    · simp [h, e]
    · simp [h]
theorem rowR_set {q : Int} {r : Rw} {R : List Rw} : rowR q (setR r R) = if r.p = q then some r else rowR q R := by
  have h1 : rowR q (setR r R) = (rowR q (delR r.p R)).or (rowR q [r]) := List.find?_append
  rw [h1, rowR_del]
  by_cases e : r.p = q
  · subst e; simp [rowR]
  · rw [if_neg e, if_neg (fun h => e h.symm)]
    have : rowR q [r] = none := by simp [rowR, e]
    rw [this]; cases rowR q R <;> rfl
theorem mem_delR {p : Int} {R : List Rw} {x : Rw} : x ∈ delR p R ↔ x ∈ R ∧ x.p ≠ p := by unfold delR; rw [List.mem_filter]; simp
theorem mem_setR {r x : Rw} {R : List Rw} : x ∈ setR r R ↔ (x ∈ R ∧ x.p ≠ r.p) ∨ x = r := by
  show x ∈ delR r.p R ++ [r] ↔ _
  rw [List.mem_append, mem_delR, List.mem_singleton]
theorem rowR_inj {R : List Rw} (h : (R.map Rw.p).Nodup) {x y : Rw} (hx : x ∈ R) (hy : y ∈ R) (e : x.p = y.p) : x = y := by
  induction R with
  | nil => cases hx
  | cons z r ih =>
    rw [List.map_cons, List.nodup_cons] at h
    rcases List.mem_cons.1 hx with e1 | hx <;> rcases List.mem_cons.1 hy with e2 | hy
    · rw [e1, e2]
    · exact absurd (List.mem_map.2 ⟨y, hy, by rw [← e, e1]⟩) h.1
    · exact absurd (List.mem_map.2 ⟨x, hx, by rw [e, e2]⟩) h.1
    · exact ih h.2 hx hy
theorem rowR_mem {R : List Rw} (h : (R.map Rw.p).Nodup) {r : Rw} (hr : r ∈ R) : rowR r.p R = some r := by
  cases hf : rowR r.p R with
  | none => exact absurd rfl (rowR_none hf r hr)
  | some x => obtain ⟨hx, e⟩ := rowR_some hf; rw [rowR_inj h hx hr e]
theorem far_mem {R : List Rw} (h : R.Pairwise fun r r' => ∀ k ∈ r.fp, k ∉ r'.fp) {x y : Rw} (hx : x ∈ R) (hy : y ∈ R) (hne : x ≠ y) : ∀ k ∈ x.fp, k ∉ y.fp := by
  induction R with
  | nil => cases hx
  | cons z r ih =>
    rw [List.pairwise_cons] at h
    rcases List.mem_cons.1 hx with e1 | hx <;> rcases List.mem_cons.1 hy with e2 | hy
    · exact absurd (e1.trans e2.symm) hne
    · rw [e1]; exact h.1 y hy
    · rw [e2]; exact fun k hk hm => h.1 x hx k hm hk
    · exact ih h.2 hx hy

/-- Which blocks of the rows an operation on a price's row turns. -/
def RowAt (p : Int) (R : List Rw) (X : List Nat) : Prop := (∃ r ∈ R, r.p = p ∧ X = r.fp) ∨ ((∀ r ∈ R, r.p ≠ p) ∧ X = [])
section
variable {w w1 w2 w3 : World} {g bo br : Nat} {s : Int} {R : List Rw} {L L' : List Ord} {X : List Nat} {p : Int}
theorem SideS.apart (h : SideS w g s bo br R L) (hX : RowAt p R X) : g ∉ X ∧ bo ∉ X ∧ br ∉ X ∧ (∀ x ∈ R, x.p ≠ p → ∀ k ∈ x.fp, k ∉ X) ∧ ∀ k ∈ X, k < w.heap.size := by
  rcases hX with ⟨r, hr, hp, rfl⟩ | ⟨_, rfl⟩
  · obtain ⟨h1, h2, h3⟩ := h.rowOut hr
    exact ⟨h1, h2, h3, fun x hx hne => far_mem h.far hx hr (fun e => hne (by rw [e, hp])), (h.each r hr).1.lt⟩
  · exact ⟨by simp, by simp, by simp, by simp, by simp⟩
/-- The rows of the other prices are as they were, and apart from a row that was turned. -/
theorem SideS.others (h : SideS w g s bo br R L) (hX : RowAt p R X) {Y : List Nat} (hu : Upd X Y w w1) {x : Rw} (hx : x ∈ R) (hne : x.p ≠ p) :
    QuS w1 x.g x.A x.n x.c ((atP x.p L).map itO) ∧ ∀ k ∈ x.fp, k ∉ Y := by
  obtain ⟨-, -, -, ho, hl⟩ := h.apart hX
  refine ⟨(h.each x hx).1.upd hu (ho x hx hne), fun k hk hm => ?_⟩
  rcases hu.fresh k hm with h1 | h1
  · exact ho x hx hne k hk h1
  · have := (h.each x hx).1.lt k hk; omega
theorem SideS.fpIn (hX : RowAt p R X) : ∀ k ∈ X, k ∈ fpS g bo br R := by
  intro k hk
  rcases hX with ⟨r, hr, hp, rfl⟩ | ⟨_, rfl⟩
  · simp only [fpS, List.mem_cons, List.mem_flatMap]; exact .inr (.inr (.inr ⟨r, hr, hk⟩))
  · cases hk
theorem keysLen {M : KV} {id : Int} {v : Value} (h : lookK id M = none) : (putK id v M).length = M.length + 1 := by rw [putK_new h]; simpa using (insK_perm (id, v) M).length_eq
/-- A side with an order more. -/
theorem SideS.ins (h : SideS w g s bo br R L) {o : Ord} (hm : mayO s o = true) (hf : findO o.id L = none) (hw : (Lit.int .i64 o.id).wf = true) (hl : L.length < 256) (hX : RowAt o.price R X) {r : Rw} (hrp : r.p = o.price)
    (hu1 : Upd X r.fp w w1) (hq : QuS w1 r.g r.A r.n r.c ((atP o.price L).map itO ++ [itO o]))
    (hr2 : RowM w2 br (setR r R)) (hu2 : Upd [br] [br] w1 w2) (ho3 : OrdM w3 bo (insO s o L)) (hu3 : Upd [bo] [bo] w2 w3) :
    SideS w3 g s bo br (setR r R) (insO s o L) ∧ Upd (fpS g bo br R) (fpS g bo br (setR r R)) w w3 := by
  obtain ⟨a1, a2, a3, -, -⟩ := h.apart hX
  obtain ⟨K, hK, -⟩ := h.rows
  obtain ⟨M, hM, -⟩ := h.ords
  have hK1 := hK.upd hu1 a3
  have hM1 := hM.upd hu1 a2
  have hM2 := hM1.upd hu2 (by simpa using h.bs)
  have hR3 := hr2.upd hu3 (by simpa using h.bs.symm)
  have keep : ∀ {x : Rw} {l : Its}, QuS w1 x.g x.A x.n x.c l → QuS w3 x.g x.A x.n x.c l := fun {x l} hq => by
    have n1 := hq.notMap hK1
    have h2 := hq.upd hu2 (fun k hk => by simp; rintro rfl; exact n1 hk)
    have n2 := h2.notMap hM2
    exact h2.upd hu3 (fun k hk => by simp; rintro rfl; exact n2 hk)
  refine ⟨⟨((h.blk.upd hu1 a1).upd hu2 (by simpa using h.gbr)).upd hu3 (by simpa using h.gbo), ho3, hR3, fun x hx => ?_, fun x hx => ?_, ?_, ?_, h.bs, h.sd.ins hm hf hl, h.side, fun x hx => by
    rcases mem_insO.1 hx with rfl | hx
    · exact hw
    · exact h.wf x hx⟩, ?_⟩
  · rcases mem_setR.1 hx with ⟨hx, hne⟩ | rfl
    · rw [hrp] at hne
      rw [atP_ins_other (fun e => hne e.symm)]
      exact ⟨keep (h.others hX hu1 hx hne).1, (h.each x hx).2⟩
    · rw [hrp, atP_ins_same h.sd.rising, List.map_append]
      exact ⟨keep hq, by simp⟩
  · rcases mem_insO.1 hx with rfl | hx
    · exact ⟨r, mem_setR.2 (.inr rfl), hrp⟩
    · obtain ⟨y, hy, hyp⟩ := h.all x hx
      by_cases e : y.p = r.p
      · exact ⟨r, mem_setR.2 (.inr rfl), e.symm.trans hyp⟩
      · exact ⟨y, mem_setR.2 (.inl ⟨hy, e⟩), hyp⟩
  · show ((delR r.p R ++ [r]).map Rw.p).Nodup
    rw [List.map_append, List.nodup_append]
    refine ⟨List.Nodup.sublist (List.Sublist.map _ List.filter_sublist) h.ps, by simp, fun a ha b hb e => ?_⟩
    obtain ⟨x, hx, rfl⟩ := List.mem_map.1 ha
    simp at hb
    exact (mem_delR.1 hx).2 (e.trans hb)
  · show (delR r.p R ++ [r]).Pairwise _
    refine List.pairwise_append.2 ⟨List.Pairwise.filter _ h.far, List.pairwise_singleton _ _, fun x hx y hy => ?_⟩
    obtain rfl := List.mem_singleton.1 hy
    obtain ⟨hx, hne⟩ := mem_delR.1 hx
    exact (h.others hX hu1 hx (by rw [← hrp]; exact hne)).2
  · have e1 : Upd (fpS g bo br R) (fpS g bo br (setR r R)) w w1 := hu1.mono (SideS.fpIn hX) (fun k hk => by
      simp only [fpS, List.mem_cons, List.mem_flatMap] at hk
      rcases hk with rfl | rfl | rfl | ⟨x, hx, hk⟩
      · exact .inr (.inl (by simp [fpS]))
      · exact .inr (.inl (by simp [fpS]))
      · exact .inr (.inl (by simp [fpS]))
      · rcases mem_setR.1 hx with ⟨hx, _⟩ | rfl
        · exact .inr (.inl (by simp only [fpS, List.mem_cons, List.mem_flatMap]; exact .inr (.inr (.inr ⟨x, hx, hk⟩))))
        · exact .inl hk)
    exact (e1.trans (hu2.wide (by simp [fpS]))).trans (hu3.wide (by simp [fpS]))
theorem mapI_up' {w : World} {b : Nat} {M : KV} (h : MapI Try.prog 2 w b M) : Agio.Up (keysK M) := by
  unfold Agio.Up keysK
  rw [List.pairwise_map]
  exact h.sorted (int_keyed Try.underlying2)
theorem nodup_len : ∀ {a b : List Int}, a.Nodup → (∀ x ∈ a, x ∈ b) → a.length ≤ b.length
  | [], _, _, _ => by simp
  | x :: a, b, hn, hs => by
    rw [List.nodup_cons] at hn
    have hx := hs x (by simp)
    have h1 := nodup_len (b := b.erase x) hn.2 (fun y hy => (List.mem_erase_of_ne (by rintro rfl; exact hn.1 hy)).2 (hs y (List.mem_cons_of_mem _ hy)))
    rw [List.length_erase_of_mem hx] at h1
    have : 0 < b.length := List.length_pos_of_mem hx
    simp; omega
/-- There are no more rows than orders. -/
theorem SideS.rowsLen (h : SideS w g s bo br R L) {K : KV} (hK : MapI Try.prog 2 w br K) (hl : ∀ p, lookK p K = (rowR p R).map Rw.val) : K.length ≤ 256 := by
  have hup : Agio.Up (keysK K) := by
    unfold Agio.Up keysK
    rw [List.pairwise_map]
    exact hK.sorted (int_keyed Try.underlying2)
  have h1 := nodup_len (b := L.map Ord.price) (up_nodup hup) (fun p hp => by
    rw [mem_keysK, hl] at hp
    obtain ⟨r, hr⟩ := Option.isSome_iff_exists.1 (by simpa using hp)
    obtain ⟨hrR, rfl⟩ := rowR_some hr
    obtain ⟨o, ho⟩ := List.exists_mem_of_ne_nil _ (h.each r hrR).2
    have := List.mem_filter.1 ho
    exact List.mem_map.2 ⟨o, this.1, by simpa using this.2⟩)
  have := h.sd.len
  simp only [keysK, List.length_map] at h1
  omega
/-- What stands in both maps behind the two stores. -/
theorem OrdM.ins_ {M : KV} {b : Nat} {o : Ord} (hM : MapI Try.prog 2 w b (putK o.id o.val M)) (hl : M.length = L.length) (hk : ∀ i, lookK i M = (findO i L).map Ord.val) (hf : findO o.id L = none) : OrdM w b (insO s o L) := by
  refine ⟨_, hM, ?_, fun i => ?_⟩
  · rw [keysLen (by rw [hk, hf]; rfl), insO_len, hl]
  · rw [lookK_put, findO_ins hf, hk]
    split <;> rfl
theorem RowM.set_ {K : KV} {b : Nat} {r : Rw} (hK : MapI Try.prog 2 w b (putK r.p r.val K)) (hk : ∀ q, lookK q K = (rowR q R).map Rw.val) : RowM w b (setR r R) := by
  refine ⟨_, hK, fun q => ?_⟩
  rw [lookK_put, rowR_set, hk]
  split <;> rfl
end
end Go.Proofs.Ytdmmpcdilkcfjaa
