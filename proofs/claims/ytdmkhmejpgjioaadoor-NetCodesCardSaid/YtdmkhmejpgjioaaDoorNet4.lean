/- Messages: (agio/net).through, where numbers are read. -/
import Derived.Test.YtdmkhmejpgjioaaDoorNet3
import Derived.Test.YtdmkhmejpgjioaaDoorReader3
set_option linter.all false
namespace Go.Proofs.YtdmkhmejpgjioaaDoor
open Go.RowKit Agio

theorem Rr.off {w : World} {g : Nat} {A : Option Addr} {k c : Nat} {b : List UInt8} {a h : Nat} {t : TypeId} {cs : Array Value} (hr : Rr w g A k c b a) (hB : Blk w h t cs) (ht : t ≠ 5) (hg : g ≠ h) : ∀ j ∈ g :: ablk A, j ∉ [h] := by
  intro j hj
  simp only [List.mem_singleton]
  rintro rfl
  rcases List.mem_cons.1 hj with h | h
  · exact hg h.symm
  · exact hr.own.own.ne hB (Ne.symm ht) h

set_option maxRecDepth 100000 in
set_option maxHeartbeats 1000000 in
/-- The closure that reads a number. -/
theorem netDec1 (p : Addr) (y : Int) (w : World) (hp : w.cell? p = some (.int .i64 y)) (hf : w.frozen? p = false) (g H : Nat) (A : Option Addr) (k c : Nat) (b : List UInt8) (a : Nat) (hr : Rr w g A k c b a) (hH : Blk w H 128 #[.pointer (some ⟨g, 0, none⟩)]) (hpg : p.block ≠ g) (hb : b.length ≤ 140737488355328)
    (n sz bad : Nat) (hu : upt 1099511627776 (b.drop a) = (n, sz, bad)) :
    Calls Tryd.prog 66 #[.pointer (some p), .pointer (some ⟨H, 0, none⟩)] w fun e w' => e = .returned (.bool (decide (bad = 0))) ∧ ∃ w2, Rr w2 g A k c b (a + sz) ∧ Upd [g] [g] w w2 ∧ w' = w2.setCell p (.int .i64 (n : Int)) := by
  have C := readerSmall w g A k c b a 1099511627776 (by unfold I64; omega) hr hb
  rw [hu] at C
  have q := hH.cell 0
  simp only [List.getElem?_toArray, List.getElem?_cons_zero] at q
  have hlt := World.block_lt_of_cell? w p hp
  clear hu
  by_cases hz : bad = 0
  · subst hz
    simp only [flt_zero] at C
    go_enter Tryd.func66, Tryd.ntmps66
    repeat' ((fail_if_success (with_reducible refine stop_append rfl ?_)); (fail_if_success (with_reducible refine stop_copy rfl ?_)); first | go_values | go_skip | go_guarded | go_step | go_upon | (simp only []; go_at_K))
    ((with_reducible refine C.mono ?_); rintro e w2 ⟨rfl, hr2, hu2⟩)
    have hp2 := hu2.cell hp (by simpa using hpg)
    have hf2 := (hu2.frozen hlt (by simpa using hpg)).trans hf
    clear C q hp hf
    repeat' ((fail_if_success (with_reducible refine stop_append rfl ?_)); (fail_if_success (with_reducible refine stop_copy rfl ?_)); first | go_values | go_skip | go_guarded | go_step | go_upon | (simp only []; go_at_K))
    go_ret
    exact ⟨rfl, w2, hr2, hu2, rfl⟩
  · simp only [flt_pos hz] at C
    go_enter Tryd.func66, Tryd.ntmps66
    repeat' ((fail_if_success (with_reducible refine stop_append rfl ?_)); (fail_if_success (with_reducible refine stop_copy rfl ?_)); first | go_values | go_skip | go_guarded | go_step | go_upon | (simp only []; go_at_K))
    ((with_reducible refine C.mono ?_); rintro e w2 ⟨rfl, hr2, hu2⟩)
    have hp2 := hu2.cell hp (by simpa using hpg)
    have hf2 := (hu2.frozen hlt (by simpa using hpg)).trans hf
    clear C q hp hf
    repeat' ((fail_if_success (with_reducible refine stop_append rfl ?_)); (fail_if_success (with_reducible refine stop_copy rfl ?_)); first | go_values | go_skip | go_guarded | go_step | go_upon | (simp only []; go_at_K))
    go_ret
    exact ⟨by simp [hz], w2, hr2, hu2, rfl⟩

/-- A message's cells, of whose numbers some are read. -/
def mC (l : List Nat) : List Value := i64s (l.take 8) ++ List.replicate (8 - l.length) (.int .i64 0) ++ [.bool false, .slice none 0 0]
theorem mC_set {l : List Nat} (h : l.length < 8) (x : Nat) : (mC l).toArray.setIfInBounds l.length (.int .i64 (x : Int)) = (mC (l ++ [x])).toArray := by
  match l, h with
  | [], _ => rfl
  | [_], _ => rfl
  | [_, _], _ => rfl
  | [_, _, _], _ => rfl
  | [_, _, _, _], _ => rfl
  | [_, _, _, _, _], _ => rfl
  | [_, _, _, _, _, _], _ => rfl
  | [_, _, _, _, _, _, _], _ => rfl
theorem mC_eight {l : List Nat} (h : l.length = 8) (x : Nat) : mC (l ++ [x]) = mC l := by
  match l, h with
  | [_, _, _, _, _, _, _, _], _ => rfl
theorem mC_int {l : List Nat} (h : l.length ≤ 8) {i : Nat} (hi : i < 8) : ∃ y : Int, (mC l)[i]? = some (.int .i64 y) := by
  have : i = 0 ∨ i = 1 ∨ i = 2 ∨ i = 3 ∨ i = 4 ∨ i = 5 ∨ i = 6 ∨ i = 7 := by omega
  match l, h with
  | [], _ => rcases this with rfl | rfl | rfl | rfl | rfl | rfl | rfl | rfl <;> exact ⟨_, rfl⟩
  | [_], _ => rcases this with rfl | rfl | rfl | rfl | rfl | rfl | rfl | rfl <;> exact ⟨_, rfl⟩
  | [_, _], _ => rcases this with rfl | rfl | rfl | rfl | rfl | rfl | rfl | rfl <;> exact ⟨_, rfl⟩
  | [_, _, _], _ => rcases this with rfl | rfl | rfl | rfl | rfl | rfl | rfl | rfl <;> exact ⟨_, rfl⟩
  | [_, _, _, _], _ => rcases this with rfl | rfl | rfl | rfl | rfl | rfl | rfl | rfl <;> exact ⟨_, rfl⟩
  | [_, _, _, _, _], _ => rcases this with rfl | rfl | rfl | rfl | rfl | rfl | rfl | rfl <;> exact ⟨_, rfl⟩
  | [_, _, _, _, _, _], _ => rcases this with rfl | rfl | rfl | rfl | rfl | rfl | rfl | rfl <;> exact ⟨_, rfl⟩
  | [_, _, _, _, _, _, _], _ => rcases this with rfl | rfl | rfl | rfl | rfl | rfl | rfl | rfl <;> exact ⟨_, rfl⟩
  | [_, _, _, _, _, _, _, _], _ => rcases this with rfl | rfl | rfl | rfl | rfl | rfl | rfl | rfl <;> exact ⟨_, rfl⟩
theorem ms9_get {i : Nat} (h : i < 9) : ms9[i]? = some 1099511627776 := by unfold ms9; rw [List.getElem?_replicate, if_pos h]
theorem nptrs_lo (M S : Nat) {i : Nat} (h : i < 8) : (nptrs M S)[i]'(by rw [nptrs_len]; omega) = ⟨M, i, none⟩ := by
  have : i = 0 ∨ i = 1 ∨ i = 2 ∨ i = 3 ∨ i = 4 ∨ i = 5 ∨ i = 6 ∨ i = 7 := by omega
  rcases this with rfl | rfl | rfl | rfl | rfl | rfl | rfl | rfl <;> rfl

set_option maxRecDepth 100000 in
set_option maxHeartbeats 2000000 in
theorem netThroughD (w : World) (M S H g : Nat) (A : Option Addr) (k c : Nat) (b : List UInt8) (hr : Rr w g A k c b 0) (hH : Blk w H 128 #[.pointer (some ⟨g, 0, none⟩)])
    (hM : Blk w M 56 (mC []).toArray) (hS : Blk w S 3 #[.int .i64 0]) (hb : b.length ≤ 140737488355328) :
    Calls Tryd.prog 58 #[.pointer (some ⟨M, 0, none⟩), .pointer (some ⟨S, 0, none⟩), .func (.func 66) #[] #[.pointer (some ⟨H, 0, none⟩)]] w
      fun e w' => (nums b ms9 0 = none ∧ e = .returned (.bool false) ∨ ∃ (l : List Nat) (a : Nat), nums b ms9 0 = some (l, a) ∧ l.length = 9 ∧ e = .returned (.bool true) ∧ Rr w' g A k c b a ∧ Blk w' M 56 (mC l).toArray ∧ Blk w' S 3 #[.int .i64 ((l.getD 8 0 : Nat) : Int)] ∧ Blk w' H 128 #[.pointer (some ⟨g, 0, none⟩)])
        ∧ Upd [g, M, S] [g, M, S] w w' := by
  have hMS : M ≠ S := hM.ne_ hS (by decide)
  have hgM : g ≠ M := hr.blk.ne_ hM (by decide)
  have hgS : g ≠ S := hr.blk.ne_ hS (by decide)
  have hHM : H ≠ M := hH.ne_ hM (by decide)
  have hHS : H ≠ S := hH.ne_ hS (by decide)
  have hgH : g ≠ H := hr.blk.ne_ hH (by decide)
  go_enter Tryd.func58, Tryd.ntmps58
  repeat' ((fail_if_success (with_reducible refine stop_append rfl ?_)); (fail_if_success (with_reducible refine stop_copy rfl ?_)); first | go_values | go_skip | go_guarded | go_step | go_upon | (simp only []; go_at_K))
  go_still_tail 29, (by kernel_rfl)
  change wpList _ _ _ _ _ w.drew
  repeat' ((fail_if_success (with_reducible refine stop_append rfl ?_)); (fail_if_success (with_reducible refine stop_copy rfl ?_)); first | go_values | go_skip | go_guarded | go_step | go_upon | (simp only []; go_at_K))
  have hP : Blk (w.alloc (.cells (ptrVs (nptrs M S)).toArray 118)).drew w.heap.size 118 (ptrVs (nptrs M S)).toArray := Blk.new _ _ _
  have hr1 : Rr (w.alloc (.cells (ptrVs (nptrs M S)).toArray 118)).drew g A k c b 0 := ⟨hr.blk.alloc _, (hr.own.alloc _).drew, hr.le⟩
  have hH1 : Blk (w.alloc (.cells (ptrVs (nptrs M S)).toArray 118)).drew H 128 #[.pointer (some ⟨g, 0, none⟩)] := hH.alloc _
  have hM1 : Blk (w.alloc (.cells (ptrVs (nptrs M S)).toArray 118)).drew M 56 (mC []).toArray := hM.alloc _
  have hS1 : Blk (w.alloc (.cells (ptrVs (nptrs M S)).toArray 118)).drew S 3 #[.int .i64 0] := hS.alloc _
  have hPg : w.heap.size ≠ g := by have := hr.blk.lt; omega
  have hPM : w.heap.size ≠ M := by have := hM.lt; omega
  have hPS : w.heap.size ≠ S := by have := hS.lt; omega
  have U1 : Upd [g, M, S] [g, M, S] w (w.alloc (.cells (ptrVs (nptrs M S)).toArray 118)).drew := ((Upd.refl _ _).alloc _).drew
  clear hr hH hM hS
  go_loopw [42] (fun v42 wr => ∃ (l : List Nat) (a : Nat), l.length ≤ 9 ∧ v42 = .int .i64 (l.length : Int) ∧ NumSt b ms9 l a ∧ Rr wr g A k c b a ∧ Blk wr M 56 (mC l).toArray ∧ Blk wr S 3 #[.int .i64 ((l.getD 8 0 : Nat) : Int)] ∧ Blk wr H 128 #[.pointer (some ⟨g, 0, none⟩)] ∧ Blk wr w.heap.size 118 (ptrVs (nptrs M S)).toArray ∧ Upd [g, M, S] [g, M, S] w wr)
    (fun v42 _ => 9 - (intOf v42).toNat)
  case atStart => exact ⟨[], 0, by simp, rfl, NumSt.zero _ _, hr1, hM1, hS1, hH1, hP, U1⟩
  case round =>
    obtain ⟨l, a, hl9, rfl, hst, hr, hM, hS, hH, hP2, hu⟩ := hrel
    clear hP hr1 hM1 hS1 hH1 U1
    by_cases hlt : l.length < 9
    · have hlt9 : l.length < (nptrs M S).length := by rw [nptrs_len]; exact hlt
      obtain ⟨n, sz, bad, hun⟩ : ∃ n sz bad, upt 1099511627776 (b.drop a) = (n, sz, bad) := ⟨_, _, _, rfl⟩
      have hpc : wr.cell? ⟨w.heap.size, l.length, none⟩ = some (.pointer (some ((nptrs M S)[l.length]'hlt9))) := by
        rw [hP2.cell]; simpa using ptrVs_get (nptrs M S) l.length hlt9
      -- where it is stored
      have hst8 : ∃ y : Int, wr.cell? ((nptrs M S)[l.length]'hlt9) = some (.int .i64 y) ∧ wr.frozen? ((nptrs M S)[l.length]'hlt9) = false ∧ ((nptrs M S)[l.length]'hlt9).block ∈ [M, S] ∧
          ∀ W : World, Blk W M 56 (mC l).toArray → Blk W S 3 #[.int .i64 ((l.getD 8 0 : Nat) : Int)] →
            Blk (W.setCell ((nptrs M S)[l.length]'hlt9) (.int .i64 (n : Int))) M 56 (mC (l ++ [n])).toArray ∧ Blk (W.setCell ((nptrs M S)[l.length]'hlt9) (.int .i64 (n : Int))) S 3 #[.int .i64 (((l ++ [n]).getD 8 0 : Nat) : Int)] := by
        by_cases h8 : l.length < 8
        · rw [nptrs_lo M S h8]
          obtain ⟨y, hy⟩ := mC_int (l := l) (by omega) h8
          refine ⟨y, by rw [hM.cell]; simpa using hy, hM.frozen _, by simp, fun W hM' hS' => ⟨?_, ?_⟩⟩
          · rw [← mC_set h8]; exact hM'.set_ _ _
          · have e : (l ++ [n]).getD 8 0 = l.getD 8 0 := by
              rw [List.getD_eq_getElem?_getD, List.getD_eq_getElem?_getD, List.getElem?_eq_none (l := l ++ [n]) (by simp; omega), List.getElem?_eq_none (l := l) (by omega)]
            rw [e]; exact hS'.far (Ne.symm hMS) _
        · have e8 : l.length = 8 := by omega
          have en : (nptrs M S)[l.length]'hlt9 = ⟨S, 0, none⟩ := by simp only [e8]; rfl
          rw [en]
          refine ⟨_, hS.cell 0, hS.frozen _, by simp, fun W hM' hS' => ⟨?_, ?_⟩⟩
          · rw [mC_eight e8]; exact hM'.far hMS _
          · have e : (l ++ [n]).getD 8 0 = n := by
              rw [List.getD_eq_getElem?_getD, List.getElem?_append_right (by omega), e8]; rfl
            rw [e]; exact hS'.set_ 0 _
      obtain ⟨y, hpy, hpf, hpb, hset⟩ := hst8
      have HSET := Lib.hid hset; clear hset
      have HR : Hid (∀ (W : World), Rr W g A k c b (a + sz) → Blk W M 56 (mC l).toArray → Blk W S 3 #[.int .i64 ((l.getD 8 0 : Nat) : Int)] → Rr (W.setCell ((nptrs M S)[l.length]'hlt9) (.int .i64 (n : Int))) g A k c b (a + sz)) := by
        intro W h1 h2 h3
        have hq : ((nptrs M S)[l.length]'hlt9).block = M ∨ ((nptrs M S)[l.length]'hlt9).block = S := by simpa using hpb
        rcases hq with hq | hq
        · exact h1.upd ((Upd.refl [M] W).setCell (.inl (by simp [hq])) _) (h1.off h2 (by decide) hgM)
        · exact h1.upd ((Upd.refl [S] W).setCell (.inl (by simp [hq])) _) (h1.off h3 (by decide) hgS)
      have HF : Hid (∀ (W : World) (h : Nat) (t : TypeId) (cs : Array Value), h ≠ M → h ≠ S → Blk W h t cs → Blk (W.setCell ((nptrs M S)[l.length]'hlt9) (.int .i64 (n : Int))) h t cs) := by
        intro W h t cs h1 h2 hB
        have hq : ((nptrs M S)[l.length]'hlt9).block = M ∨ ((nptrs M S)[l.length]'hlt9).block = S := by simpa using hpb
        exact hB.far (by rcases hq with hq | hq <;> rw [hq] <;> assumption) _
      have hpg : ((nptrs M S)[l.length]'hlt9).block ≠ g := by
        have hq : ((nptrs M S)[l.length]'hlt9).block = M ∨ ((nptrs M S)[l.length]'hlt9).block = S := by simpa using hpb
        rcases hq with hq | hq <;> rw [hq]
        · exact Ne.symm hgM
        · exact Ne.symm hgS
      have HU : Hid (∀ (W : World), Upd [g, M, S] [g, M, S] w W → Upd [g, M, S] [g, M, S] w (W.setCell ((nptrs M S)[l.length]'hlt9) (.int .i64 (n : Int)))) := by
        intro W h
        have hq : ((nptrs M S)[l.length]'hlt9).block = M ∨ ((nptrs M S)[l.length]'hlt9).block = S := by simpa using hpb
        exact h.setCell (.inl (by rcases hq with hq | hq <;> simp [hq])) _
      clear hpb
      generalize (nptrs M S)[l.length]'hlt9 = p at *
      have D := netDec1 p y wr hpy hpf g H A k c b a hr hH hpg hb n sz bad hun
      by_cases hz : bad = 0
      · subst hz
        have HN := Lib.hid (hst.more (ms9_get hlt) hun)
        rw [decide_eq_true rfl] at D
        clear hst hun hpy hpf
        repeat' ((fail_if_success (with_reducible refine stop_append rfl ?_)); (fail_if_success (with_reducible refine stop_copy rfl ?_)); first | go_values | go_skip | go_guarded | go_step | go_upon | (simp only []; go_at_K))
        ((with_reducible refine D.mono ?_); rintro e w3 ⟨rfl, w2, hr2, hu2, rfl⟩)
        have hM2 := hM.upd hu2 (by simp; exact Ne.symm hgM)
        have hS2 := hS.upd hu2 (by simp; exact Ne.symm hgS)
        have hH2 := hH.upd hu2 (by simp; exact Ne.symm hgH)
        have hP3 := hP2.upd hu2 (by simpa using hPg)
        have hu3 := HU.out _ (hu.trans (hu2.mono (a' := [g, M, S]) (b' := [g, M, S]) (by simp) (fun j hj => .inr (.inl hj))))
        have hMS3 := HSET.out _ hM2 hS2
        have hr3 := HR.out _ hr2 hM2 hS2
        have hH3 := HF.out _ _ _ _ hHM hHS hH2
        have hP4 := HF.out _ _ _ _ hPM hPS hP3
        clear D HU HSET HR HF hM2 hS2 hH2 hP3 hr2 hM hS hH hP2 hr
        generalize w2.setCell p (.int .i64 (n : Int)) = W3 at *
        repeat' ((fail_if_success (with_reducible refine stop_append rfl ?_)); (fail_if_success (with_reducible refine stop_copy rfl ?_)); first | go_values | go_skip | go_guarded | go_step | go_upon | (simp only []; go_at_K))
        exact ⟨⟨l ++ [n], a + sz, by simp; omega, by simp, HN.out, hr3, hMS3.1, hMS3.2, hH3, hP4, hu3⟩, by simp [intOf]; omega⟩
      · have HN := Lib.hid (hst.bad (ms9_get hlt) hun hz)
        rw [decide_eq_false hz] at D
        clear hst hun hpy hpf
        repeat' ((fail_if_success (with_reducible refine stop_append rfl ?_)); (fail_if_success (with_reducible refine stop_copy rfl ?_)); first | go_values | go_skip | go_guarded | go_step | go_upon | (simp only []; go_at_K))
        ((with_reducible refine D.mono ?_); rintro e w3 ⟨rfl, w2, hr2, hu2, rfl⟩)
        have hu3 := HU.out _ (hu.trans (hu2.mono (a' := [g, M, S]) (b' := [g, M, S]) (by simp) (fun j hj => .inr (.inl hj))))
        clear D HU HSET HR HF hM hS hH hP2 hr hr2
        generalize w2.setCell p (.int .i64 (n : Int)) = W3 at *
        repeat' ((fail_if_success (with_reducible refine stop_append rfl ?_)); (fail_if_success (with_reducible refine stop_copy rfl ?_)); first | go_values | go_skip | go_guarded | go_step | go_upon | (simp only []; go_at_K))
        go_ret
        exact ⟨.inl ⟨HN.out, rfl⟩, hu3⟩
    · have hl : l.length = 9 := by omega
      have HN := Lib.hid (hst.all (by rw [hl]; rfl))
      clear hst hlt
      repeat' ((fail_if_success (with_reducible refine stop_append rfl ?_)); (fail_if_success (with_reducible refine stop_copy rfl ?_)); first | go_values | go_skip | go_guarded | go_step | go_upon | (simp only []; go_at_K))
      go_ret
      exact ⟨.inr ⟨l, a, HN.out, hl, rfl, hr, hM, hS, hH⟩, hu⟩
end Go.Proofs.YtdmkhmejpgjioaaDoor
