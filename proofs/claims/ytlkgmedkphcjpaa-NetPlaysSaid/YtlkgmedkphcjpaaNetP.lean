/- A net: (agio/net).Spoil. -/
import Derived.Test.YtlkgmedkphcjpaaNetU
import Derived.Laws.BitsAllLaws
namespace Go.Proofs.Ytlkgmedkphcjpaa
open Go.RowKit Agio

/-- A byte of a slice of its own is written. -/
theorem _root_.Agio.OwnB.put {T : TypeId} {w : World} {A : Option Addr} {n c : Nat} {l : List UInt8} (h : OwnB T w A n c l) {k : Nat} (hk : k < n) (v : UInt8) :
    ∃ g, A = some ⟨g, 0, none⟩ ∧ w.frozen? ⟨g, k, none⟩ = false ∧ OwnB T (w.setCell ⟨g, k, none⟩ (B8 v)) A n c (l.set k v) := by
  rcases h.own.2 with ⟨_, hn⟩ | ⟨g, cap, cur, hv, hb, hg, hnc, hcm, hcs, htk⟩
  · omega
  · injection hv with hA _ hc
    subst hA hc
    have hB : Blk w g T cur := hg
    have h' := hB.set_ k (B8 v)
    refine ⟨g, rfl, hB.frozen k, by rw [List.length_set]; exact h.len, ?_, .inr ⟨g, c, _, rfl, hb, h', hnc, hcm, by simpa using hcs, ?_⟩⟩
    · have := h.own.1
      simp only [b8s, List.length_map, List.length_set] at this ⊢
      exact this
    · rw [Array.toList_setIfInBounds, List.take_set, htk]
      simp only [b8s, List.map_set]

def Pk.turn (x : Pk) (k : Nat) (v : UInt8) : Pk := { x with b := x.b.set k v }
theorem turn_cells (l : List Pk) {i : Nat} (hi : i < l.length) (k : Nat) (v : UInt8) : (l.set i (l[i].turn k v)).flatMap Pk.cells = l.flatMap Pk.cells := by
  rw [List.flatMap_def, List.flatMap_def, List.map_set]
  congr 1
  apply List.ext_getElem?
  intro j
  rw [List.getElem?_set]
  split
  · rename_i h; subst h; simp [hi, Pk.turn, Pk.cells]
  · rfl
theorem turn_get {l : List Pk} {i : Nat} (hi : i < l.length) (k : Nat) (v : UInt8) {j : Nat} (hj : j < l.length) : ((l.set i (l[i].turn k v))[j]'(by simpa using hj)).A = l[j].A := by
  rw [List.getElem_set]
  split
  · rename_i h; subst h; rfl
  · rfl
theorem turn_fp (g : Nat) (A : Option Addr) (l : List Pk) {i : Nat} (hi : i < l.length) (k : Nat) (v : UInt8) : fpN g A (l.set i (l[i].turn k v)) = fpN g A l := by
  unfold fpN
  congr 2
  rw [List.flatMap_def, List.flatMap_def, List.map_set]
  congr 1
  apply List.ext_getElem?
  intro j
  rw [List.getElem?_set]
  split
  · rename_i h; subst h; simp [hi, Pk.turn]
  · rfl
theorem NetS.turn {w : World} {g : Nat} {A : Option Addr} {n c : Nat} {l : List Pk} (h : NetS w g A n c l) {i : Nat} (hi : i < l.length) {k : Nat} (hk : k < l[i].b.length) (v : UInt8) :
    ∃ gx, l[i].A = some ⟨gx, 0, none⟩ ∧ w.frozen? ⟨gx, k, none⟩ = false ∧ NetS (w.setCell ⟨gx, k, none⟩ (B8 v)) g A n c (l.set i (l[i].turn k v)) ∧ Upd (fpN g A l) (fpN g A (l.set i (l[i].turn k v))) w (w.setCell ⟨gx, k, none⟩ (B8 v)) := by
  have hx := h.each l[i] (List.getElem_mem hi)
  obtain ⟨gx, hA, hf, ho⟩ := hx.put (k := k) (by rw [hx.len]; exact hk) v
  have hgx : gx ∈ ablk l[i].A := by rw [hA]; simp [ablk]
  have hset : Upd [gx] [gx] w (w.setCell ⟨gx, k, none⟩ (B8 v)) := (Upd.refl _ _).setCell (.inl (by simp)) _
  have hfp : gx ∈ fpN g A l := by simp only [fpN, List.mem_cons, List.mem_append, List.mem_flatMap]; exact .inr (.inr ⟨_, List.getElem_mem hi, hgx⟩)
  refine ⟨gx, hA, hf, ⟨h.blk.upd hset (by simp; rintro rfl; exact hx.own.ne h.blk (by decide) hgx), ?_, ?_, ?_, by rw [List.length_set]; exact h.le⟩, ?_⟩
  · have hr : PkL (w.setCell ⟨gx, k, none⟩ (B8 v)) A n c l := h.row.upd hset (fun j hj => by simp; rintro rfl; exact h.row.apart hx.own (by decide) j hgx hj)
    refine ⟨by rw [List.length_set]; exact hr.len, ?_⟩
    rw [turn_cells l hi]
    exact hr.row
  · intro y hy
    obtain ⟨j, hj, rfl⟩ := List.mem_iff_getElem.1 hy
    rw [List.length_set] at hj
    rw [List.getElem_set]
    split
    · exact ho
    · rename_i hne
      refine (h.each l[j] (List.getElem_mem hj)).upd hset (fun q hq => by
        simp; rintro rfl
        rcases Nat.lt_or_ge i j with h1 | h1
        · exact List.pairwise_iff_getElem.1 h.far i j hi hj h1 q hgx hq
        · exact List.pairwise_iff_getElem.1 h.far j i hj hi (by omega) q hq hgx)
  · rw [List.pairwise_iff_getElem]
    intro a b ha hb hab q hq hm
    rw [List.length_set] at ha hb
    rw [turn_get hi k v ha] at hq
    rw [turn_get hi k v hb] at hm
    exact List.pairwise_iff_getElem.1 h.far a b ha hb hab q hq hm
  · rw [turn_fp]
    exact (Upd.refl _ _).setCell (.inl hfp) _

set_option maxRecDepth 100000 in
set_option maxHeartbeats 4000000 in
theorem netSpoil (w : World) (g : Nat) (A : Option Addr) (n c : Nat) (l : List Pk) (h : NetS w g A n c l) (i : Nat) (hi : i < l.length) (k : Nat) (hk : k < l[i].b.length) (v : UInt8) (hv : v ≠ 0) :
    Calls Try.prog 20 #[.pointer (some ⟨g, 0, none⟩), .int .i64 (i : Int), .int .i64 (k : Int), .int .u8 (v.toNat : Int)] w fun e w' =>
      e = .returned (.int .i64 0) ∧ NetS w' g A n c (l.set i (l[i].turn k (l[i].b[k] ^^^ v))) ∧ Upd (fpN g A l) (fpN g A (l.set i (l[i].turn k (l[i].b[k] ^^^ v)))) w w' := by
  have hn := h.len
  have hin : (i : Int) < (n : Int) := by omega
  have ht : thereB l.length (i : Int) = true := by unfold thereB; simp; omega
  have C := netThere w g A n c l h (i : Int)
  rw [ht] at C
  have q := h.blk.cell 0
  simp only [List.getElem?_toArray, List.getElem?_cons_zero] at q
  obtain ⟨ad, rfl, p0, p1⟩ := h.row.at_ hi
  obtain ⟨gx, hA, hf, hs⟩ := h.turn hi hk (l[i].b[k] ^^^ v)
  have hx := h.each l[i] (List.getElem_mem hi)
  have hxl := hx.len
  have hxc := hx.rd.2
  have hkn : (k : Int) < (l[i].n : Int) := by omega
  have hc : w.cell? ⟨gx, k, none⟩ = some (.int .u8 (l[i].b[k].toNat : Int)) := by
    obtain ⟨a, ha, hcc⟩ := hxc (by omega)
    rw [hA] at ha
    injection ha with ha
    subst ha
    have := hcc k (B8 l[i].b[k]) (by simp [b8s, hk])
    rw [show (⟨gx, 0, none⟩ : Addr).add k = ⟨gx, k, none⟩ by cases k <;> simp [Addr.add]] at this
    exact this
  have hxor : bits .xor .u8 (l[i].b[k].toNat : Int) (v.toNat : Int) = (((l[i].b[k] ^^^ v).toNat : Nat) : Int) := by
    rw [u8_xor_nat _ _ l[i].b[k].toNat_lt v.toNat_lt]; simp
  have hB8 : B8 (l[i].b[k] ^^^ v) = .int .u8 ((l[i].b[k] ^^^ v).toNat : Int) := rfl
  rw [hB8] at hs
  have hv0 : ((v.toNat : Int) == 0) = false := by
    simp only [beq_eq_false_iff_ne, ne_eq]
    intro h0
    exact hv (UInt8.toNat_inj.1 (by simpa using h0))
  generalize l[i].b[k].toNat = b0 at *
  generalize (l[i].b[k] ^^^ v).toNat = b1 at *
  generalize v.toNat = v0 at *
  generalize l[i].turn k (l[i].b[k] ^^^ v) = x' at *
  generalize l[i] = x at *
  obtain ⟨xt, xA, xn, xc, xb⟩ := x
  simp only at hA p0 p1 hkn hk hxl hx hxc
  subst hA
  have hkc : (k : Int) < (xc : Int) := by have := hx.own.cap.1; omega
  clear hn ht hi hx hxc hv hB8 h hxl hk
  go_enter Try.func20, Try.ntmps20
  repeat' ((fail_if_success (with_reducible refine stop_append rfl ?_)); (fail_if_success (with_reducible refine stop_copy rfl ?_)); first | go_values | go_skip | go_guarded | go_step | go_upon | (simp only []; go_at_K))
  ((with_reducible refine C.mono ?_); rintro e w1 ⟨rfl, rfl⟩)
  repeat' ((fail_if_success (with_reducible refine stop_append rfl ?_)); (fail_if_success (with_reducible refine stop_copy rfl ?_)); first | go_values | go_skip | go_guarded | go_step | go_upon | (simp only []; go_at_K))
  go_ret
  exact ⟨rfl, hs.1, hs.2⟩
end Go.Proofs.Ytlkgmedkphcjpaa
