/- (agio/cmd).read. -/
import Derived.Test.YtmnoahglajilhaaDoorCmd4
import Derived.RegionTactic
import Derived.BigRegion
import Derived.Deep.RegionWith
namespace Go.Proofs.YtmnoahglajilhaaDoor
open Go.RowKit Agio

/-- Where the first loop stands behind i rounds. -/
def headSt (b : List UInt8) (i a h0 h1 : Nat) : Prop :=
  (i = 0 ∧ a = 0 ∧ h0 = 0 ∧ h1 = 0) ∨ (i = 1 ∧ upt 1000 b = (h0, a, 0) ∧ h1 = 0) ∨ (i = 2 ∧ ∃ k0 k1, upt 1000 b = (h0, k0, 0) ∧ upt 1000 (b.drop k0) = (h1, k1, 0) ∧ a = k0 + k1)
theorem headSt_le {b : List UInt8} {i a h0 h1 : Nat} (h : headSt b i a h0 h1) : i ≤ 2 := by rcases h with h | h | h <;> omega
/-- Seven cells, of which some hold numbers. -/
def sevenC (l : List Int) : List Value := l.map (Value.int .i64) ++ List.replicate (7 - l.length) (.int .i64 0)
theorem sevenC_len {l : List Int} (h : l.length ≤ 7) : (sevenC l).length = 7 := by simp [sevenC]; omega
theorem sevenC_set {l : List Int} (h : l.length < 7) (x : Int) : (sevenC l).toArray.setIfInBounds l.length (.int .i64 x) = (sevenC (l ++ [x])).toArray := by
  rw [List.setIfInBounds_toArray]
  congr 1
  unfold sevenC
  rw [List.set_append_right _ _ (by simp), List.length_map, Nat.sub_self, List.map_append, List.append_assoc]
  congr 1
  rw [show 7 - l.length = (7 - (l ++ [x]).length) + 1 by simp; omega, List.replicate_succ, List.set_cons_zero]
  rfl
/-- The second loop: behind some rounds it is as the rest says. -/
def tailSt (b : List UInt8) (a0 : Nat) (l : List Int) (a : Nat) : Prop :=
  ints b 7 a0 = (match ints b (7 - l.length) a with | .inl e => .inl e | .inr r => .inr (l ++ r.1, r.2))
theorem sevenC_ex {l : List Int} (h : l.length ≤ 7) : ∃ y0 y1 y2 y3 y4 y5 y6 : Int, (sevenC l).toArray = #[.int .i64 y0, .int .i64 y1, .int .i64 y2, .int .i64 y3, .int .i64 y4, .int .i64 y5, .int .i64 y6] := by
  have e : sevenC l = (l ++ List.replicate (7 - l.length) 0).map (Value.int .i64) := by simp [sevenC]
  have hl : (l ++ List.replicate (7 - l.length) (0 : Int)).length = 7 := by simp; omega
  rw [e]
  generalize l ++ List.replicate (7 - l.length) (0 : Int) = r at hl
  match r, hl with
  | [y0, y1, y2, y3, y4, y5, y6], _ => exact ⟨y0, y1, y2, y3, y4, y5, y6, rfl⟩
theorem sevenC_full {l : List Int} (h : l.length = 7) : ∃ y0 y1 y2 y3 y4 y5 y6 : Int, l = [y0, y1, y2, y3, y4, y5, y6] ∧ (sevenC l).toArray = #[.int .i64 y0, .int .i64 y1, .int .i64 y2, .int .i64 y3, .int .i64 y4, .int .i64 y5, .int .i64 y6] := by
  match l, h with
  | [y0, y1, y2, y3, y4, y5, y6], _ => exact ⟨y0, y1, y2, y3, y4, y5, y6, rfl, rfl⟩
theorem tailSt_zero (b : List UInt8) (a0 : Nat) : tailSt b a0 [] a0 := by
  unfold tailSt; simp only [List.length_nil, Nat.sub_zero, List.nil_append]
  cases ints b 7 a0 <;> rfl
theorem tailSt_more {b : List UInt8} {a0 a : Nat} {l : List Int} (h : tailSt b a0 l a) (hl : l.length < 7) {x k : Nat} (hu : uv (b.drop a) = (x, k, 0)) : tailSt b a0 (l ++ [zag x]) (a + k) := by
  unfold tailSt at h ⊢
  rw [h, show 7 - l.length = (7 - (l ++ [zag x]).length) + 1 by simp; omega]
  simp only [ints, hu, if_true]
  cases ints b (7 - (l ++ [zag x]).length) (a + k) with
  | inl e => rfl
  | inr r => simp
theorem tailSt_bad {b : List UInt8} {a0 a : Nat} {l : List Int} (h : tailSt b a0 l a) (hl : l.length < 7) {x k bad : Nat} (hu : uv (b.drop a) = (x, k, bad)) (h0 : bad ≠ 0) : ints b 7 a0 = .inl (bad, a) := by
  unfold tailSt at h
  rw [h, show 7 - l.length = (6 - l.length) + 1 by omega]
  simp only [ints, hu, if_neg h0]
theorem tailSt_end {b : List UInt8} {a0 a : Nat} {l : List Int} (h : tailSt b a0 l a) (hl : l.length = 7) : ints b 7 a0 = .inr (l, a) := by
  unfold tailSt at h
  rw [h, hl]; simp [ints]
theorem read_h0 {b : List UInt8} {n k bad : Nat} (h : upt 1000 b = (n, k, bad)) (h0 : bad ≠ 0) : cmdRead b = .inl (bad, 0) := by
  unfold cmdRead; rw [h]; simp only [if_neg h0]
theorem read_h1 {b : List UInt8} {n k n1 k1 bad : Nat} (h : upt 1000 b = (n, k, 0)) (h1 : upt 1000 (b.drop k) = (n1, k1, bad)) (h0 : bad ≠ 0) : cmdRead b = .inl (bad, k) := by
  unfold cmdRead; rw [h]; simp only [h1, if_true, if_neg h0]
theorem read_t {b : List UInt8} {n k n1 k1 : Nat} (h : upt 1000 b = (n, k, 0)) (h1 : upt 1000 (b.drop k) = (n1, k1, 0)) {e : Nat × Nat} (h2 : ints b 7 (k + k1) = .inl e) : cmdRead b = .inl e := by
  unfold cmdRead; rw [h]; simp only [h1, if_true, h2]
theorem read_e {b : List UInt8} {n k n1 k1 : Nat} (h : upt 1000 b = (n, k, 0)) (h1 : upt 1000 (b.drop k) = (n1, k1, 0)) {l : List Int} {e : Nat} (h2 : ints b 7 (k + k1) = .inr (l, e)) :
    cmdRead b = if e < b.length then .inl (2, e) else .inr (n, n1, l) := by
  unfold cmdRead; rw [h]; simp only [h1, if_true, h2]

/-- What read tells. -/
def ReadTold (b : List UInt8) (e : Ending) : Prop :=
  (∃ (bad a : Nat) (x0 x1 y0 y1 y2 y3 y4 y5 y6 : Int), cmdRead b = .inl (bad, a) ∧ bad ≠ 0 ∧ e = .returned (.tuple #[.agg #[.int .i64 x0, .int .i64 x1], .agg #[.int .i64 y0, .int .i64 y1, .int .i64 y2, .int .i64 y3, .int .i64 y4, .int .i64 y5, .int .i64 y6], flt bad a])) ∨
  ∃ (x0 x1 : Nat) (y0 y1 y2 y3 y4 y5 y6 : Int), cmdRead b = .inr (x0, x1, [y0, y1, y2, y3, y4, y5, y6]) ∧ e = .returned (.tuple #[.agg #[.int .i64 (x0 : Int), .int .i64 (x1 : Int)], .agg #[.int .i64 y0, .int .i64 y1, .int .i64 y2, .int .i64 y3, .int .i64 y4, .int .i64 y5, .int .i64 y6], .nilIface])

theorem Rr.far {w : World} {g : Nat} {A : Option Addr} {k c : Nat} {b : List UInt8} {a h : Nat} {t : TypeId} {cs : Array Value} (hr : Rr w g A k c b a) (hB : Blk w h t cs) (ht : t ≠ 5) (hg : g ≠ h) : ∀ j ∈ g :: ablk A, j ∉ [h] := by
  intro j hj
  simp only [List.mem_singleton]
  rintro rfl
  rcases List.mem_cons.1 hj with h | h
  · exact hg h.symm
  · exact hr.own.own.ne hB (Ne.symm ht) h
theorem rewrite9n {W w : World} {H T g : Nat} {t1 t2 : TypeId} {x0 x1 y0 y1 y2 y3 y4 y5 y6 : Value} (hH : Blk W H t1 #[x0, x1]) (hT : Blk W T t2 #[y0, y1, y2, y3, y4, y5, y6]) (hne : H ≠ T) (U : Upd [] [g] w W) (hHn : w.heap.size ≤ H) (hTn : w.heap.size ≤ T) :
    Blk (((((((((W.setCell ⟨H, 0, none⟩ x0).setCell ⟨H, 1, none⟩ x1).setCell ⟨T, 0, none⟩ y0).setCell ⟨T, 1, none⟩ y1).setCell ⟨T, 2, none⟩ y2).setCell ⟨T, 3, none⟩ y3).setCell ⟨T, 4, none⟩ y4).setCell ⟨T, 5, none⟩ y5).setCell ⟨T, 6, none⟩ y6) H t1 #[x0, x1] ∧
    Blk (((((((((W.setCell ⟨H, 0, none⟩ x0).setCell ⟨H, 1, none⟩ x1).setCell ⟨T, 0, none⟩ y0).setCell ⟨T, 1, none⟩ y1).setCell ⟨T, 2, none⟩ y2).setCell ⟨T, 3, none⟩ y3).setCell ⟨T, 4, none⟩ y4).setCell ⟨T, 5, none⟩ y5).setCell ⟨T, 6, none⟩ y6) T t2 #[y0, y1, y2, y3, y4, y5, y6] ∧
    Upd [] [g] w (((((((((W.setCell ⟨H, 0, none⟩ x0).setCell ⟨H, 1, none⟩ x1).setCell ⟨T, 0, none⟩ y0).setCell ⟨T, 1, none⟩ y1).setCell ⟨T, 2, none⟩ y2).setCell ⟨T, 3, none⟩ y3).setCell ⟨T, 4, none⟩ y4).setCell ⟨T, 5, none⟩ y5).setCell ⟨T, 6, none⟩ y6) := by
  refine ⟨?_, ?_, ?_⟩
  · have h := (((((((((hH.set_ 0 x0).set_ 1 x1).far (p := ⟨T, 0, none⟩) hne y0).far (p := ⟨T, 1, none⟩) hne y1).far (p := ⟨T, 2, none⟩) hne y2).far (p := ⟨T, 3, none⟩) hne y3).far (p := ⟨T, 4, none⟩) hne y4).far (p := ⟨T, 5, none⟩) hne y5).far (p := ⟨T, 6, none⟩) hne y6)
    simpa using h
  · have h := (((((((((hT.far (p := ⟨H, 0, none⟩) (Ne.symm hne) x0).far (p := ⟨H, 1, none⟩) (Ne.symm hne) x1).set_ 0 y0).set_ 1 y1).set_ 2 y2).set_ 3 y3).set_ 4 y4).set_ 5 y5).set_ 6 y6)
    simpa using h
  · exact (((((((((U.setCell (.inr hHn) _).setCell (.inr hHn) _).setCell (.inr hTn) _).setCell (.inr hTn) _).setCell (.inr hTn) _).setCell (.inr hTn) _).setCell (.inr hTn) _).setCell (.inr hTn) _).setCell (.inr hTn) _)

theorem rewrite9 {W w : World} {H T g : Nat} {t1 t2 : TypeId} {x0 x1 y0 y1 y2 y3 y4 y5 y6 : Value} (hH : Blk W H t1 #[x0, x1]) (hT : Blk W T t2 #[y0, y1, y2, y3, y4, y5, y6]) (hne : H ≠ T) (U : Upd [] [g] w W) (hHn : w.heap.size ≤ H) (hTn : w.heap.size ≤ T) :
    Blk (((((((((W.setCell ⟨H, 0, none⟩ x0).setCell ⟨H, 1, none⟩ x1).setCell ⟨T, 0, none⟩ y0).setCell ⟨T, 1, none⟩ y1).setCell ⟨T, 2, none⟩ y2).setCell ⟨T, 3, none⟩ y3).setCell ⟨T, 4, none⟩ y4).setCell ⟨T, 5, none⟩ y5).setCell ⟨T, 6, none⟩ y6).drew H t1 #[x0, x1] ∧
    Blk (((((((((W.setCell ⟨H, 0, none⟩ x0).setCell ⟨H, 1, none⟩ x1).setCell ⟨T, 0, none⟩ y0).setCell ⟨T, 1, none⟩ y1).setCell ⟨T, 2, none⟩ y2).setCell ⟨T, 3, none⟩ y3).setCell ⟨T, 4, none⟩ y4).setCell ⟨T, 5, none⟩ y5).setCell ⟨T, 6, none⟩ y6).drew T t2 #[y0, y1, y2, y3, y4, y5, y6] ∧
    Upd [] [g] w (((((((((W.setCell ⟨H, 0, none⟩ x0).setCell ⟨H, 1, none⟩ x1).setCell ⟨T, 0, none⟩ y0).setCell ⟨T, 1, none⟩ y1).setCell ⟨T, 2, none⟩ y2).setCell ⟨T, 3, none⟩ y3).setCell ⟨T, 4, none⟩ y4).setCell ⟨T, 5, none⟩ y5).setCell ⟨T, 6, none⟩ y6).drew := by
  obtain ⟨h1, h2, h3⟩ := rewrite9n hH hT hne U hHn hTn
  exact ⟨h1.drew, h2.drew, h3.drew⟩

set_option maxRecDepth 100000 in
set_option maxHeartbeats 4000000 in
theorem cmdRead_any (w : World) (B : Option Addr) (m d : Nat) (b : List UInt8) (hB : RdB w B m b) (hb : b.length ≤ 140737488355328) :
    Calls Tryd.prog 32 #[.slice B m d] w fun e w' => ReadTold b e ∧ Upd [] [] w w' := by
  have hB' : RdB ((w.alloc (.cells #[.int .i64 0, .int .i64 0] 78)).alloc (.cells #[.int .i64 0, .int .i64 0, .int .i64 0, .int .i64 0, .int .i64 0, .int .i64 0, .int .i64 0] 72)) B m b := (hB.alloc _).alloc _
  have hH : Blk ((w.alloc (.cells #[.int .i64 0, .int .i64 0] 78)).alloc (.cells #[.int .i64 0, .int .i64 0, .int .i64 0, .int .i64 0, .int .i64 0, .int .i64 0, .int .i64 0] 72)) w.heap.size 78 #[.int .i64 0, .int .i64 0] := (Blk.new _ _ _).alloc _
  have hT : Blk ((w.alloc (.cells #[.int .i64 0, .int .i64 0] 78)).alloc (.cells #[.int .i64 0, .int .i64 0, .int .i64 0, .int .i64 0, .int .i64 0, .int .i64 0, .int .i64 0] 72)) (w.heap.size + 1) 72 (sevenC []).toArray := by
    have := Blk.new (w.alloc (.cells #[.int .i64 0, .int .i64 0] 78)) 72 #[.int .i64 0, .int .i64 0, .int .i64 0, .int .i64 0, .int .i64 0, .int .i64 0, .int .i64 0]
    rw [World.size_alloc] at this
    exact this
  have hU : Upd [] [] w ((w.alloc (.cells #[.int .i64 0, .int .i64 0] 78)).alloc (.cells #[.int .i64 0, .int .i64 0, .int .i64 0, .int .i64 0, .int .i64 0, .int .i64 0, .int .i64 0] 72)) := ((Upd.refl _ _).alloc _).alloc _
  go_enter Tryd.func32, Tryd.ntmps32
  repeat' ((fail_if_success (with_reducible refine stop_append rfl ?_)); (fail_if_success (with_reducible refine stop_copy rfl ?_)); first | go_values | go_skip | go_guarded | go_step | go_upon | (simp only []; go_at_K))
  refine (wireFrom _ B m d b hB' hb).mono ?_
  rintro e w1 ⟨g, A, k, c, rfl, hr1, hu1⟩
  have hH1 := hH.upd hu1 (by simp)
  have hT1 := hT.upd hu1 (by simp)
  have hg : w.heap.size + 1 < g := by
    have := hu1.fresh g (by simp)
    simp at this; omega
  have U1 : Upd [] [g] w w1 := (hU.trans hu1).gives (by simp; omega)
  clear hu1 hU hH hT hB'
  repeat' ((fail_if_success (with_reducible refine stop_append rfl ?_)); (fail_if_success (with_reducible refine stop_copy rfl ?_)); first | go_values | go_skip | go_guarded | go_step | go_upon | (simp only []; go_at_K))
  go_loopw [4, 10] (fun v4 v10 wr => ∃ (i a h0 h1 : Nat), i ≤ 2 ∧ v4 = .nilIface ∧ v10 = .int .i64 (i : Int) ∧ headSt b i a h0 h1 ∧ Blk wr w.heap.size 78 #[.int .i64 (h0 : Int), .int .i64 (h1 : Int)] ∧ Blk wr (w.heap.size + 1) 72 (sevenC []).toArray ∧ Rr wr g A k c b a ∧ Upd [] [g] w wr)
    (fun _ v10 _ => 2 - (intOf v10).toNat)
  case atStart => exact ⟨0, 0, 0, 0, by omega, rfl, rfl, .inl ⟨rfl, rfl, rfl, rfl⟩, hH1, hT1, hr1, U1⟩
  case round =>
    obtain ⟨i, a, h0, h1, hi, rfl, rfl, hst, hH, hT, hr, U⟩ := hrel
    clear hr1 hH1 hT1 U1
    have hgH : w.heap.size ∉ [g] := by simp; omega
    have hgT : w.heap.size + 1 ∉ [g] := by simp; omega
    have hi2 : i = 0 ∨ i = 1 ∨ i = 2 := by omega
    rcases hi2 with rfl | rfl | rfl
    · have C := readerSmall wr g A k c b a 1000 (by unfold I64; omega) hr hb
      obtain ⟨n, sz, bad, hu⟩ : ∃ n sz bad, upt 1000 (b.drop a) = (n, sz, bad) := ⟨_, _, _, rfl⟩
      rw [hu] at C
      obtain ⟨rfl, rfl, rfl⟩ : a = 0 ∧ h0 = 0 ∧ h1 = 0 := by rcases hst with h | h | h <;> omega
      rw [List.drop_zero] at hu
      have HU := Lib.hid hu; clear hu hst
      by_cases hz : bad = 0
      · subst hz
        simp only [flt_zero] at C
        repeat' ((fail_if_success (with_reducible refine stop_append rfl ?_)); (fail_if_success (with_reducible refine stop_copy rfl ?_)); first | go_values | go_skip | go_guarded | go_step | go_upon | (simp only []; go_at_K))
        refine C.mono ?_
        rintro e w2 ⟨rfl, hr2, hu2⟩
        have hH2 := hH.upd hu2 hgH
        have hc0 := hH2.cell 0
        have hf0 := hH2.frozen 0
        simp at hc0
        have hH3 : Blk (w2.setCell ⟨w.heap.size, 0, none⟩ (.int .i64 (n : Int))) w.heap.size 78 #[.int .i64 (n : Int), .int .i64 0] := by simpa using hH2.set_ 0 (.int .i64 (n : Int))
        have U3 : Upd [w.heap.size] [w.heap.size] w2 (w2.setCell ⟨w.heap.size, 0, none⟩ (.int .i64 (n : Int))) := (Upd.refl _ _).setCell (.inl (by simp)) _
        have hT2 := hT.upd hu2 hgT
        clear C
        repeat' ((fail_if_success (with_reducible refine stop_append rfl ?_)); (fail_if_success (with_reducible refine stop_copy rfl ?_)); first | go_values | go_skip | go_guarded | go_step | go_upon | (simp only []; go_at_K))
        refine ⟨⟨1, sz, n, 0, by omega, rfl, rfl, .inr (.inl ⟨rfl, HU.out, rfl⟩), hH3, hT2.far (by simp) _, ?_, (U.trans hu2).setCell (.inr (by simp)) _⟩, by simp [intOf]⟩
        rw [Nat.zero_add] at hr2
        exact hr2.upd U3 (hr2.far hH2 (by decide) (by omega))
      · have hbn : n = 0 := by have := (upt_bad (most := 1000) (l := b) (by rw [HU.out]; exact hz)).1; rw [HU.out] at this; exact this
        subst hbn
        simp only [flt_pos hz] at C
        skip
        repeat' ((fail_if_success (with_reducible refine stop_append rfl ?_)); (fail_if_success (with_reducible refine stop_copy rfl ?_)); first | go_values | go_skip | go_guarded | go_step | go_upon | (simp only []; go_at_K))
        refine C.mono ?_
        rintro e w2 ⟨rfl, hr2, hu2⟩
        have hH2 := hH.upd hu2 hgH
        have hT2 := hT.upd hu2 hgT
        have hc0 := hH2.cell 0
        have hf0 := hH2.frozen 0
        simp at hc0
        clear C
        have ER : ReadTold b (.returned (.tuple #[.agg #[.int .i64 0, .int .i64 0], .agg #[.int .i64 0, .int .i64 0, .int .i64 0, .int .i64 0, .int .i64 0, .int .i64 0, .int .i64 0], .iface 138 (.agg #[.int .i64 (bad : Int), .int .i64 (0 : Int)])])) := .inl ⟨bad, 0, 0, 0, 0, 0, 0, 0, 0, 0, 0, read_h0 HU.out hz, hz, by rw [flt_pos hz] <;> rfl⟩
        have HR := Lib.hid ER; clear ER HU hz
        have hH3 : Blk (w2.setCell ⟨w.heap.size, 0, none⟩ (.int .i64 0)) w.heap.size 78 #[.int .i64 0, .int .i64 0] := by simpa using hH2.set_ 0 (.int .i64 0)
        have hT3 : Blk (w2.setCell ⟨w.heap.size, 0, none⟩ (.int .i64 0)) (w.heap.size + 1) 72 #[.int .i64 0, .int .i64 0, .int .i64 0, .int .i64 0, .int .i64 0, .int .i64 0, .int .i64 0] := hT2.far (by simp) _
        have U3 : Upd [] [g] w (w2.setCell ⟨w.heap.size, 0, none⟩ (.int .i64 0)) := (U.trans hu2).setCell (.inr (by simp)) _
        repeat' ((fail_if_success (with_reducible refine stop_append rfl ?_)); (fail_if_success (with_reducible refine stop_copy rfl ?_)); first | go_values | go_skip | go_guarded | go_step | go_upon | (simp only []; go_at_K))
        clear hH hT hr U hu2 hr2 hH2 hT2 hc0 hf0
        generalize w2.setCell ⟨w.heap.size, 0, none⟩ (.int .i64 0) = W at *
        have q0 := hH3.cell 0
        have q1 := hH3.cell 1
        have z0 := hT3.cell 0
        have z1 := hT3.cell 1
        have z2 := hT3.cell 2
        have z3 := hT3.cell 3
        have z4 := hT3.cell 4
        have z5 := hT3.cell 5
        have z6 := hT3.cell 6
        simp at q0 q1 z0 z1 z2 z3 z4 z5 z6
        have p0 := hH3.frozen 0
        have p1 := hH3.frozen 1
        have f0 := hT3.frozen 0
        have f1 := hT3.frozen 1
        have f2 := hT3.frozen 2
        have f3 := hT3.frozen 3
        have f4 := hT3.frozen 4
        have f5 := hT3.frozen 5
        have f6 := hT3.frozen 6
        have N := rewrite9 hH3 hT3 (by omega) U3 (by omega) (by omega)
        go_region
        clear q0 q1 z0 z1 z2 z3 z4 z5 z6 p0 p1 f0 f1 f2 f3 f4 f5 f6
        generalize World.drew _ = W9 at N ⊢
        obtain ⟨n1, n2, n3⟩ := N
        have q0 := n1.cell 0
        have q1 := n1.cell 1
        have z0 := n2.cell 0
        have z1 := n2.cell 1
        have z2 := n2.cell 2
        have z3 := n2.cell 3
        have z4 := n2.cell 4
        have z5 := n2.cell 5
        have z6 := n2.cell 6
        simp at q0 q1 z0 z1 z2 z3 z4 z5 z6
        repeat' ((fail_if_success (with_reducible refine stop_append rfl ?_)); (fail_if_success (with_reducible refine stop_copy rfl ?_)); first | go_values | go_skip | go_guarded | go_step | go_upon | (simp only []; go_at_K))
        refine bodyPost_ret (v := .tuple #[.agg #[.int .i64 0, .int .i64 0], .agg #[.int .i64 0, .int .i64 0, .int .i64 0, .int .i64 0, .int .i64 0, .int .i64 0, .int .i64 0], .iface 138 (.agg #[.int .i64 (bad : Int), .int .i64 (0 : Int)])]) (by simp [results, Tryd.results32, go_sem, q0, q1, z0, z1, z2, z3, z4, z5, z6]) rfl ⟨HR.out, n3.gives (by simp)⟩
    · have C := readerSmall wr g A k c b a 1000 (by unfold I64; omega) hr hb
      obtain ⟨n, sz, bad, hu⟩ : ∃ n sz bad, upt 1000 (b.drop a) = (n, sz, bad) := ⟨_, _, _, rfl⟩
      rw [hu] at C
      obtain ⟨hs1, rfl⟩ : upt 1000 b = (h0, a, 0) ∧ h1 = 0 := by
        rcases hst with h | h | h
        · omega
        · exact h.2
        · omega
      have HU := Lib.hid hu; clear hu
      have HS := Lib.hid hs1; clear hs1 hst
      by_cases hz : bad = 0
      · subst hz
        simp only [flt_zero] at C
        skip
        repeat' ((fail_if_success (with_reducible refine stop_append rfl ?_)); (fail_if_success (with_reducible refine stop_copy rfl ?_)); first | go_values | go_skip | go_guarded | go_step | go_upon | (simp only []; go_at_K))
        refine C.mono ?_
        rintro e w2 ⟨rfl, hr2, hu2⟩
        have hH2 := hH.upd hu2 hgH
        have hT2 := hT.upd hu2 hgT
        have hc0 := hH2.cell 1
        have hf0 := hH2.frozen 1
        simp at hc0
        have hH3 : Blk (w2.setCell ⟨w.heap.size, 1, none⟩ (.int .i64 (n : Int))) w.heap.size 78 #[.int .i64 (h0 : Int), .int .i64 (n : Int)] := by simpa using hH2.set_ 1 (.int .i64 (n : Int))
        have U3 : Upd [w.heap.size] [w.heap.size] w2 (w2.setCell ⟨w.heap.size, 1, none⟩ (.int .i64 (n : Int))) := (Upd.refl _ _).setCell (.inl (by simp)) _
        clear C
        repeat' ((fail_if_success (with_reducible refine stop_append rfl ?_)); (fail_if_success (with_reducible refine stop_copy rfl ?_)); first | go_values | go_skip | go_guarded | go_step | go_upon | (simp only []; go_at_K))
        refine ⟨⟨2, a + sz, h0, n, by omega, rfl, rfl, .inr (.inr ⟨rfl, a, sz, HS.out, HU.out, rfl⟩), hH3, hT2.far (by simp) _, ?_, (U.trans hu2).setCell (.inr (by simp)) _⟩, by simp [intOf]⟩
        exact hr2.upd U3 (hr2.far hH2 (by decide) (by omega))
      · have hbn : n = 0 := by have := (upt_bad (most := 1000) (l := b.drop a) (by rw [HU.out]; exact hz)).1; rw [HU.out] at this; exact this
        subst hbn
        simp only [flt_pos hz] at C
        skip
        repeat' ((fail_if_success (with_reducible refine stop_append rfl ?_)); (fail_if_success (with_reducible refine stop_copy rfl ?_)); first | go_values | go_skip | go_guarded | go_step | go_upon | (simp only []; go_at_K))
        refine C.mono ?_
        rintro e w2 ⟨rfl, hr2, hu2⟩
        have hH2 := hH.upd hu2 hgH
        have hT2 := hT.upd hu2 hgT
        have hc0 := hH2.cell 1
        have hf0 := hH2.frozen 1
        simp at hc0
        clear C
        have ER : ReadTold b (.returned (.tuple #[.agg #[.int .i64 (h0 : Int), .int .i64 0], .agg #[.int .i64 0, .int .i64 0, .int .i64 0, .int .i64 0, .int .i64 0, .int .i64 0, .int .i64 0], .iface 138 (.agg #[.int .i64 (bad : Int), .int .i64 (a : Int)])])) := .inl ⟨bad, a, (h0 : Int), 0, 0, 0, 0, 0, 0, 0, 0, read_h1 HS.out HU.out hz, hz, by rw [flt_pos hz] <;> rfl⟩
        have HR := Lib.hid ER; clear ER HU hz
        have hH3 : Blk (w2.setCell ⟨w.heap.size, 1, none⟩ (.int .i64 0)) w.heap.size 78 #[.int .i64 (h0 : Int), .int .i64 0] := by simpa using hH2.set_ 1 (.int .i64 0)
        have hT3 : Blk (w2.setCell ⟨w.heap.size, 1, none⟩ (.int .i64 0)) (w.heap.size + 1) 72 #[.int .i64 0, .int .i64 0, .int .i64 0, .int .i64 0, .int .i64 0, .int .i64 0, .int .i64 0] := hT2.far (by simp) _
        have U3 : Upd [] [g] w (w2.setCell ⟨w.heap.size, 1, none⟩ (.int .i64 0)) := (U.trans hu2).setCell (.inr (by simp)) _
        repeat' ((fail_if_success (with_reducible refine stop_append rfl ?_)); (fail_if_success (with_reducible refine stop_copy rfl ?_)); first | go_values | go_skip | go_guarded | go_step | go_upon | (simp only []; go_at_K))
        clear hH hT hr U hu2 hr2 hH2 hT2 hc0 hf0
        generalize w2.setCell ⟨w.heap.size, 1, none⟩ (.int .i64 0) = W at *
        have q0 := hH3.cell 0
        have q1 := hH3.cell 1
        have z0 := hT3.cell 0
        have z1 := hT3.cell 1
        have z2 := hT3.cell 2
        have z3 := hT3.cell 3
        have z4 := hT3.cell 4
        have z5 := hT3.cell 5
        have z6 := hT3.cell 6
        simp at q0 q1 z0 z1 z2 z3 z4 z5 z6
        have p0 := hH3.frozen 0
        have p1 := hH3.frozen 1
        have f0 := hT3.frozen 0
        have f1 := hT3.frozen 1
        have f2 := hT3.frozen 2
        have f3 := hT3.frozen 3
        have f4 := hT3.frozen 4
        have f5 := hT3.frozen 5
        have f6 := hT3.frozen 6
        have N := rewrite9 hH3 hT3 (by omega) U3 (by omega) (by omega)
        go_region
        clear q0 q1 z0 z1 z2 z3 z4 z5 z6 p0 p1 f0 f1 f2 f3 f4 f5 f6
        generalize World.drew _ = W9 at N ⊢
        obtain ⟨n1, n2, n3⟩ := N
        have q0 := n1.cell 0
        have q1 := n1.cell 1
        have z0 := n2.cell 0
        have z1 := n2.cell 1
        have z2 := n2.cell 2
        have z3 := n2.cell 3
        have z4 := n2.cell 4
        have z5 := n2.cell 5
        have z6 := n2.cell 6
        simp at q0 q1 z0 z1 z2 z3 z4 z5 z6
        repeat' ((fail_if_success (with_reducible refine stop_append rfl ?_)); (fail_if_success (with_reducible refine stop_copy rfl ?_)); first | go_values | go_skip | go_guarded | go_step | go_upon | (simp only []; go_at_K))
        refine bodyPost_ret (v := .tuple #[.agg #[.int .i64 (h0 : Int), .int .i64 0], .agg #[.int .i64 0, .int .i64 0, .int .i64 0, .int .i64 0, .int .i64 0, .int .i64 0, .int .i64 0], .iface 138 (.agg #[.int .i64 (bad : Int), .int .i64 (a : Int)])]) (by simp [results, Tryd.results32, go_sem, q0, q1, z0, z1, z2, z3, z4, z5, z6]) rfl ⟨HR.out, n3.gives (by simp)⟩
    · obtain ⟨k0, k1, hs0, hs1, rfl⟩ : ∃ k0 k1, upt 1000 b = (h0, k0, 0) ∧ upt 1000 (b.drop k0) = (h1, k1, 0) ∧ a = k0 + k1 := by
        rcases hst with h | h | h
        · omega
        · omega
        · exact h.2
      have HS0 := Lib.hid hs0; clear hs0
      have HS1 := Lib.hid hs1; clear hs1 hst
      repeat' ((fail_if_success (with_reducible refine stop_append rfl ?_)); (fail_if_success (with_reducible refine stop_copy rfl ?_)); first | go_values | go_skip | go_guarded | go_step | go_upon | (simp only []; go_at_K))
      go_loopw [4, 26] (fun v4 v26 wr => ∃ (a : Nat) (l : List Int), l.length ≤ 7 ∧ v4 = .nilIface ∧ v26 = .int .i64 (l.length : Int) ∧ tailSt b (k0 + k1) l a ∧ Blk wr w.heap.size 78 #[.int .i64 (h0 : Int), .int .i64 (h1 : Int)] ∧ Blk wr (w.heap.size + 1) 72 (sevenC l).toArray ∧ Rr wr g A k c b a ∧ Upd [] [g] w wr)
        (fun _ v26 _ => 7 - (intOf v26).toNat)
      case atStart => exact ⟨_, [], by simp, rfl, rfl, tailSt_zero _ _, hH, hT, hr, U⟩
      case round =>
        clear hH hT hr U
        obtain ⟨a, l, hl7, rfl, rfl, hts, hH, hT, hr, U⟩ := hrel
        have HTS := Lib.hid hts; clear hts
        by_cases hlt : l.length < 7
        · have C := readerInt wr g A k c b a hr hb
          obtain ⟨n, sz, bad, hu⟩ : ∃ n sz bad, uv (b.drop a) = (n, sz, bad) := ⟨_, _, _, rfl⟩
          rw [hu] at C
          have HU := Lib.hid hu; clear hu
          have hcell : ∀ w2, Blk w2 (w.heap.size + 1) 72 (sevenC l).toArray → w2.cell? ⟨w.heap.size + 1, l.length, none⟩ = some (.int .i64 0) := by
            intro w2 h
            rw [h.cell l.length]
            unfold sevenC
            rw [List.getElem?_toArray, List.getElem?_append_right (by simp), List.length_map, Nat.sub_self, List.getElem?_replicate, if_pos (by omega)]
          by_cases hz : bad = 0
          · subst hz
            simp only [flt_zero] at C
            skip
            repeat' ((fail_if_success (with_reducible refine stop_append rfl ?_)); (fail_if_success (with_reducible refine stop_copy rfl ?_)); first | go_values | go_skip | go_guarded | go_step | go_upon | (simp only []; go_at_K))
            refine C.mono ?_
            rintro e w2 ⟨rfl, hr2, hu2⟩
            have hH2 := hH.upd hu2 hgH
            have hT2 := hT.upd hu2 hgT
            have hc0 := hcell w2 hT2
            have hf0 := hT2.frozen l.length
            have hT3 := hT2.set_ l.length (.int .i64 (zag n))
            rw [sevenC_set hlt] at hT3
            have U3 : Upd [w.heap.size + 1] [w.heap.size + 1] w2 (w2.setCell ⟨w.heap.size + 1, l.length, none⟩ (.int .i64 (zag n))) := (Upd.refl _ _).setCell (.inl (by simp)) _
            have HT := Lib.hid (tailSt_more HTS.out hlt HU.out)
            clear C hcell
            generalize zag n = x at *
            repeat' ((fail_if_success (with_reducible refine stop_append rfl ?_)); (fail_if_success (with_reducible refine stop_copy rfl ?_)); first | go_values | go_skip | go_guarded | go_step | go_upon | (simp only []; go_at_K))
            refine ⟨⟨a + sz, l ++ [x], by simp; omega, rfl, by simp, HT.out, hH2.far (by simp) _, hT3, ?_, (U.trans hu2).setCell (.inr (by simp)) _⟩, by simp [intOf] <;> omega⟩
            exact hr2.upd U3 (hr2.far hT2 (by decide) (by omega))
          · obtain ⟨hn0, hs0, -⟩ := uv_bad (l := b.drop a) (by rw [HU.out]; exact hz)
            rw [HU.out] at hn0 hs0
            obtain rfl : n = 0 := hn0
            obtain rfl : sz = 0 := hs0
            have hz0 : zag 0 = 0 := rfl
            rw [hz0] at C
            clear hz0
            simp only [flt_pos hz] at C
            repeat' ((fail_if_success (with_reducible refine stop_append rfl ?_)); (fail_if_success (with_reducible refine stop_copy rfl ?_)); first | go_values | go_skip | go_guarded | go_step | go_upon | (simp only []; go_at_K))
            refine C.mono ?_
            rintro e w2 ⟨rfl, hr2, hu2⟩
            have hH2 := hH.upd hu2 hgH
            have hT2 := hT.upd hu2 hgT
            have hc0 := hcell w2 hT2
            have hf0 := hT2.frozen l.length
            have hT4 := hT2.set_ l.length (.int .i64 0)
            rw [sevenC_set hlt] at hT4
            obtain ⟨r0, r1, r2, r3, r4, r5, r6, hT5⟩ := sevenC_ex (l := l ++ [0]) (by simp; omega)
            rw [hT5] at hT4
            have HTB := Lib.hid (tailSt_bad HTS.out hlt HU.out hz)
            clear C hcell hT5
            have ER : ReadTold b (.returned (.tuple #[.agg #[.int .i64 (h0 : Int), .int .i64 (h1 : Int)], .agg #[.int .i64 r0, .int .i64 r1, .int .i64 r2, .int .i64 r3, .int .i64 r4, .int .i64 r5, .int .i64 r6], .iface 138 (.agg #[.int .i64 (bad : Int), .int .i64 (a : Int)])])) := .inl ⟨bad, a, (h0 : Int), (h1 : Int), r0, r1, r2, r3, r4, r5, r6, read_t HS0.out HS1.out HTB.out, hz, by rw [flt_pos hz] <;> rfl⟩
            have HR := Lib.hid ER; clear ER HU hz
            have hH3 : Blk (w2.setCell ⟨w.heap.size + 1, l.length, none⟩ (.int .i64 0)) w.heap.size 78 #[.int .i64 (h0 : Int), .int .i64 (h1 : Int)] := hH2.far (by simp) _
            have hT3 : Blk (w2.setCell ⟨w.heap.size + 1, l.length, none⟩ (.int .i64 0)) (w.heap.size + 1) 72 #[.int .i64 r0, .int .i64 r1, .int .i64 r2, .int .i64 r3, .int .i64 r4, .int .i64 r5, .int .i64 r6] := hT4
            have U3 : Upd [] [g] w (w2.setCell ⟨w.heap.size + 1, l.length, none⟩ (.int .i64 0)) := (U.trans hu2).setCell (.inr (by simp)) _
            repeat' ((fail_if_success (with_reducible refine stop_append rfl ?_)); (fail_if_success (with_reducible refine stop_copy rfl ?_)); first | go_values | go_skip | go_guarded | go_step | go_upon | (simp only []; go_at_K))
            clear hH hT hT4 hr U hu2 hr2 hH2 hT2 hc0 hf0
            generalize w2.setCell ⟨w.heap.size + 1, l.length, none⟩ (.int .i64 0) = W at *
            have q0 := hH3.cell 0
            have q1 := hH3.cell 1
            have z0 := hT3.cell 0
            have z1 := hT3.cell 1
            have z2 := hT3.cell 2
            have z3 := hT3.cell 3
            have z4 := hT3.cell 4
            have z5 := hT3.cell 5
            have z6 := hT3.cell 6
            simp at q0 q1 z0 z1 z2 z3 z4 z5 z6
            have p0 := hH3.frozen 0
            have p1 := hH3.frozen 1
            have f0 := hT3.frozen 0
            have f1 := hT3.frozen 1
            have f2 := hT3.frozen 2
            have f3 := hT3.frozen 3
            have f4 := hT3.frozen 4
            have f5 := hT3.frozen 5
            have f6 := hT3.frozen 6
            have N := rewrite9 hH3 hT3 (by omega) U3 (by omega) (by omega)
            go_region
            clear q0 q1 z0 z1 z2 z3 z4 z5 z6 p0 p1 f0 f1 f2 f3 f4 f5 f6
            generalize World.drew _ = W9 at N ⊢
            obtain ⟨n1, n2, n3⟩ := N
            have q0 := n1.cell 0
            have q1 := n1.cell 1
            have z0 := n2.cell 0
            have z1 := n2.cell 1
            have z2 := n2.cell 2
            have z3 := n2.cell 3
            have z4 := n2.cell 4
            have z5 := n2.cell 5
            have z6 := n2.cell 6
            simp at q0 q1 z0 z1 z2 z3 z4 z5 z6
            repeat' ((fail_if_success (with_reducible refine stop_append rfl ?_)); (fail_if_success (with_reducible refine stop_copy rfl ?_)); first | go_values | go_skip | go_guarded | go_step | go_upon | (simp only []; go_at_K))
            refine bodyPost_ret (v := .tuple #[.agg #[.int .i64 (h0 : Int), .int .i64 (h1 : Int)], .agg #[.int .i64 r0, .int .i64 r1, .int .i64 r2, .int .i64 r3, .int .i64 r4, .int .i64 r5, .int .i64 r6], .iface 138 (.agg #[.int .i64 (bad : Int), .int .i64 (a : Int)])]) (by simp [results, Tryd.results32, go_sem, q0, q1, z0, z1, z2, z3, z4, z5, z6]) rfl ⟨HR.out, n3.gives (by simp)⟩

        · have hl : l.length = 7 := by omega
          have HE := Lib.hid (tailSt_end HTS.out hl)
          have hle := hr.le
          obtain ⟨y0, y1, y2, y3, y4, y5, y6, rfl, hT5⟩ := sevenC_full hl
          rw [hT5] at hT
          clear hT5 HTS hlt hl7 hl
          have C := fun nq => readerEnd (wr.drewN nq) g A k c b a (hr.drewN nq) hb
          by_cases he : a < b.length
          · rw [if_pos he, flt_pos (by decide)] at C
            have HR : Hid (ReadTold b (.returned (.tuple #[.agg #[.int .i64 (h0 : Int), .int .i64 (h1 : Int)], .agg #[.int .i64 y0, .int .i64 y1, .int .i64 y2, .int .i64 y3, .int .i64 y4, .int .i64 y5, .int .i64 y6], .iface 138 (.agg #[.int .i64 2, .int .i64 (a : Int)])]))) := .inl ⟨2, a, h0, h1, y0, y1, y2, y3, y4, y5, y6, by rw [read_e HS0.out HS1.out HE.out, if_pos he], by decide, by rw [flt_pos (by decide)] <;> rfl⟩
            clear HS0 HS1 HE
            repeat' ((fail_if_success (with_reducible refine stop_append rfl ?_)); (fail_if_success (with_reducible refine stop_copy rfl ?_)); first | go_values | go_skip | go_guarded | go_step | go_upon | (simp only []; go_at_K))
            have hrd : Rr wr.drew g A k c b a := hr.drewN 1
            have q0 := hH.cell 0
            have q1 := hH.cell 1
            have z0 := hT.cell 0
            have z1 := hT.cell 1
            have z2 := hT.cell 2
            have z3 := hT.cell 3
            have z4 := hT.cell 4
            have z5 := hT.cell 5
            have z6 := hT.cell 6
            simp at q0 q1 z0 z1 z2 z3 z4 z5 z6
            have p0 := hH.frozen 0
            have p1 := hH.frozen 1
            have f0 := hT.frozen 0
            have f1 := hT.frozen 1
            have f2 := hT.frozen 2
            have f3 := hT.frozen 3
            have f4 := hT.frozen 4
            have f5 := hT.frozen 5
            have f6 := hT.frozen 6
            have D := readerEnd wr.drew g A k c b a hrd hb
            rw [if_pos he, flt_pos (by decide)] at D
            clear C
            go_region_with (first
              | (go_at_call 69; refine D.mono ?_; rintro e w5 ⟨rfl, nq, rfl⟩))
            all_goals
              have N := rewrite9n (W := wr.drewN (1 + nq)) (hH.drewN _) (hT.drewN _) (by omega) (U.drewN _) (by omega) (by omega)
              generalize World.setCell _ ⟨w.heap.size + 1, 6, none⟩ _ = W9 at N ⊢
              obtain ⟨n1, n2, n3⟩ := N
              clear q0 q1 z0 z1 z2 z3 z4 z5 z6 p0 p1 f0 f1 f2 f3 f4 f5 f6
              have q0 := n1.cell 0
              have q1 := n1.cell 1
              have z0 := n2.cell 0
              have z1 := n2.cell 1
              have z2 := n2.cell 2
              have z3 := n2.cell 3
              have z4 := n2.cell 4
              have z5 := n2.cell 5
              have z6 := n2.cell 6
              simp at q0 q1 z0 z1 z2 z3 z4 z5 z6
              repeat' ((fail_if_success (with_reducible refine stop_append rfl ?_)); (fail_if_success (with_reducible refine stop_copy rfl ?_)); first | go_values | go_skip | go_guarded | go_step | go_upon | (simp only []; go_at_K))
              refine bodyPost_ret (v := .tuple #[.agg #[.int .i64 (h0 : Int), .int .i64 (h1 : Int)], .agg #[.int .i64 y0, .int .i64 y1, .int .i64 y2, .int .i64 y3, .int .i64 y4, .int .i64 y5, .int .i64 y6], .iface 138 (.agg #[.int .i64 2, .int .i64 (a : Int)])]) (by simp [results, Tryd.results32, go_sem, q0, q1, z0, z1, z2, z3, z4, z5, z6]) rfl ⟨HR.out, n3.gives (by simp)⟩
          · rw [if_neg he, flt_zero] at C
            have HR : Hid (ReadTold b (.returned (.tuple #[.agg #[.int .i64 (h0 : Int), .int .i64 (h1 : Int)], .agg #[.int .i64 y0, .int .i64 y1, .int .i64 y2, .int .i64 y3, .int .i64 y4, .int .i64 y5, .int .i64 y6], .nilIface]))) := .inr ⟨h0, h1, y0, y1, y2, y3, y4, y5, y6, by rw [read_e HS0.out HS1.out HE.out, if_neg he], rfl⟩
            clear HS0 HS1 HE
            repeat' ((fail_if_success (with_reducible refine stop_append rfl ?_)); (fail_if_success (with_reducible refine stop_copy rfl ?_)); first | go_values | go_skip | go_guarded | go_step | go_upon | (simp only []; go_at_K))
            have hrd : Rr wr.drew g A k c b a := hr.drewN 1
            have q0 := hH.cell 0
            have q1 := hH.cell 1
            have z0 := hT.cell 0
            have z1 := hT.cell 1
            have z2 := hT.cell 2
            have z3 := hT.cell 3
            have z4 := hT.cell 4
            have z5 := hT.cell 5
            have z6 := hT.cell 6
            simp at q0 q1 z0 z1 z2 z3 z4 z5 z6
            have p0 := hH.frozen 0
            have p1 := hH.frozen 1
            have f0 := hT.frozen 0
            have f1 := hT.frozen 1
            have f2 := hT.frozen 2
            have f3 := hT.frozen 3
            have f4 := hT.frozen 4
            have f5 := hT.frozen 5
            have f6 := hT.frozen 6
            have D := readerEnd wr.drew g A k c b a hrd hb
            rw [if_neg he, flt_zero] at D
            clear C
            go_region_with (first
              | (go_at_call 69; refine D.mono ?_; rintro e w5 ⟨rfl, nq, rfl⟩))
            all_goals
              have N := rewrite9n (W := wr.drewN (1 + nq)) (hH.drewN _) (hT.drewN _) (by omega) (U.drewN _) (by omega) (by omega)
              generalize World.setCell _ ⟨w.heap.size + 1, 6, none⟩ _ = W9 at N ⊢
              obtain ⟨n1, n2, n3⟩ := N
              clear q0 q1 z0 z1 z2 z3 z4 z5 z6 p0 p1 f0 f1 f2 f3 f4 f5 f6
              have q0 := n1.cell 0
              have q1 := n1.cell 1
              have z0 := n2.cell 0
              have z1 := n2.cell 1
              have z2 := n2.cell 2
              have z3 := n2.cell 3
              have z4 := n2.cell 4
              have z5 := n2.cell 5
              have z6 := n2.cell 6
              simp at q0 q1 z0 z1 z2 z3 z4 z5 z6
              repeat' ((fail_if_success (with_reducible refine stop_append rfl ?_)); (fail_if_success (with_reducible refine stop_copy rfl ?_)); first | go_values | go_skip | go_guarded | go_step | go_upon | (simp only []; go_at_K))
              refine bodyPost_ret (v := .tuple #[.agg #[.int .i64 (h0 : Int), .int .i64 (h1 : Int)], .agg #[.int .i64 y0, .int .i64 y1, .int .i64 y2, .int .i64 y3, .int .i64 y4, .int .i64 y5, .int .i64 y6], .nilIface]) (by simp [results, Tryd.results32, go_sem, q0, q1, z0, z1, z2, z3, z4, z5, z6]) rfl ⟨HR.out, n3.gives (by simp)⟩
end Go.Proofs.YtmnoahglajilhaaDoor
