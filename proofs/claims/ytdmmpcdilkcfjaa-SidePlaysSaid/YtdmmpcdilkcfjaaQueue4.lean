/- A queue: New, Len, Put, Cut; slices.Delete at its items; Drop. -/
import Derived.Test.YtdmmpcdilkcfjaaQueue3
import Derived.Test.YtdmmpcdilkcfjaaOwnRow
namespace Go.Proofs.Ytdmmpcdilkcfjaa
open Go.RowKit Agio

set_option maxRecDepth 100000 in
theorem queueNew (w : World) : Calls Try.prog 46 #[] w fun e w' => ∃ g, e = .returned (.pointer (some ⟨g, 0, none⟩)) ∧ QuS w' g none 0 0 [] ∧ Upd [] (fpQ g none) w w' := by
  go_enter Try.func46, Try.ntmps46
  repeat' ((fail_if_success (with_reducible refine stop_append rfl ?_)); (fail_if_success (with_reducible refine stop_copy rfl ?_)); first | go_values | go_skip | go_guarded | go_step | go_upon | (simp only []; go_at_K))
  go_ret
  exact ⟨w.heap.size, rfl, ⟨Blk.new _ _ _, Agio.Own.nil _ _ _, rfl, ⟨by simp, by simp, by simp⟩⟩, ((Upd.refl [] w).alloc _).gives (by simp [fpQ, ablk])⟩

set_option maxRecDepth 100000 in
theorem queueLen (w : World) (g : Nat) (A : Option Addr) (n c : Nat) (l : Its) (h : QuS w g A n c l) :
    Calls Try.prog 44 #[.pointer (some ⟨g, 0, none⟩)] w fun e w' => e = .returned (.int .i64 (l.length : Int)) ∧ w = w' := by
  obtain rfl := h.len
  have q := h.blk.cell 0
  simp only [List.getElem?_toArray, List.getElem?_cons_zero] at q
  go_enter Try.func44, Try.ntmps44
  repeat' ((fail_if_success (with_reducible refine stop_append rfl ?_)); (fail_if_success (with_reducible refine stop_copy rfl ?_)); first | go_values | go_skip | go_guarded | go_step | go_upon | (simp only []; go_at_K))
  go_ret
  exact ⟨rfl, rfl⟩

theorem QuS.set_ {w w2 : World} {g : Nat} {A A' : Option Addr} {n c n' c' : Nat} {l l' : Its} (h : QuS w g A n c l) (hr : Agio.Own 99 2 w2 A' n' c' (l'.flatMap itC)) (hu : Upd (ablk A) (ablk A') w w2) (hl : n' = l'.length) (hk : Qok l') :
    QuS (w2.setCell ⟨g, 0, none⟩ (.slice A' n' c')) g A' n' c' l' ∧ Upd (fpQ g A) (fpQ g A') w (w2.setCell ⟨g, 0, none⟩ (.slice A' n' c')) := by
  have hb2 := h.blk.upd hu h.out
  have hgA' : g ∉ ablk A' := hr.ne hb2 (by decide)
  have hset : Upd [g] [g] w2 (w2.setCell ⟨g, 0, none⟩ (.slice A' n' c')) := (Upd.refl _ _).setCell (.inl (by simp)) _
  refine ⟨⟨by simpa using hb2.set_ 0 (.slice A' n' c'), hr.upd hset (fun k hk => by simp; rintro rfl; exact hgA' hk), hl, hk⟩, ?_⟩
  have e2 : Upd (fpQ g A) (fpQ g A') w w2 := hu.mono (fun k hk => by simp [fpQ, hk]) (fun k hk => by
    rcases List.mem_cons.1 hk with rfl | hk
    · exact .inr (.inl (by simp [fpQ]))
    · exact .inl hk)
  exact e2.setCell (.inl (by simp [fpQ])) _

/-- What Put tells. -/
def Putted (id q : Int) (w : World) (g : Nat) (A : Option Addr) (l : Its) (e : Ending) (w' : World) : Prop :=
  ∃ A' n' c', e = .returned (.int .i64 0) ∧ QuS w' g A' n' c' (l ++ [(id, q)]) ∧ Upd (fpQ g A) (fpQ g A') w w'
set_option maxRecDepth 100000 in
set_option maxHeartbeats 2000000 in
theorem queuePut (w : World) (g : Nat) (A : Option Addr) (n c : Nat) (l : Its) (h : QuS w g A n c l) (id q : Int) (h1 : 1 ≤ id) (h2 : 1 ≤ q) (h3 : q ≤ 1073741824) (hn : ∀ x ∈ l, x.1 ≠ id) (hl : l.length < 256) :
    Calls Try.prog 47 #[.pointer (some ⟨g, 0, none⟩), .int .i64 id, .int .i64 q] w (Putted id q w g A l) := by
  have hk : Qok (l ++ [(id, q)]) := ⟨by
      rw [List.map_append, List.nodup_append]
      refine ⟨h.ok.ids, by simp, fun a ha b hb e => ?_⟩
      obtain ⟨x, hx, rfl⟩ := List.mem_map.1 ha
      simp at hb
      subst hb
      exact hn x hx e, fun x hx => by
      rcases List.mem_append.1 hx with hx | hx
      · exact h.ok.each x hx
      · obtain rfl := List.mem_singleton.1 hx; exact ⟨h2, h3⟩, by simp; omega⟩
  have C := queueFind w _ l h.val id
  rw [idxQ_none hn 0] at C
  obtain rfl := h.len
  have hnl : (l.length : Int) < 256 := by omega
  have HN := Lib.hid hn
  clear hn
  go_enter Try.func47, Try.ntmps47
  repeat' ((fail_if_success (with_reducible refine stop_append rfl ?_)); (fail_if_success (with_reducible refine stop_copy rfl ?_)); first | go_values | go_skip | go_guarded | go_step | go_upon | (simp only []; go_at_K))
  ((with_reducible refine C.mono ?_); rintro e w1 ⟨rfl, hu1⟩)
  have hh := h.upd0 hu1
  have q0 := hh.blk.cell 0
  simp only [List.getElem?_toArray, List.getElem?_cons_zero] at q0
  clear C
  repeat' ((fail_if_success (with_reducible refine stop_append rfl ?_)); (fail_if_success (with_reducible refine stop_copy rfl ?_)); first | go_values | go_skip | go_guarded | go_step | go_upon | (simp only []; go_at_K))
  refine wpList_push rfl _ _ 95 rfl 99 Try.underlying95 infoItm rfl (by decide) hh.row rfl _ rfl (news := [.int .i64 id, .int .i64 q]) rfl rfl rfl (by unfold maxLen; omega) (by omega) ?_
  intro A2 c2 w2 ho2 hu2
  have hb2 := hh.blk.upd hu2 hh.out
  obtain ⟨q2, f2⟩ := hb2.c1
  clear q0
  repeat' ((fail_if_success (with_reducible refine stop_append rfl ?_)); (fail_if_success (with_reducible refine stop_copy rfl ?_)); first | go_values | go_skip | go_guarded | go_step | go_upon | (simp only []; go_at_K))
  go_ret
  have P := hh.set_ (l' := l ++ [(id, q)]) (by simpa [itC] using ho2) hu2 (by simp) hk
  exact ⟨A2, _, c2, rfl, P.1, (hu1.up _).trans P.2⟩

/-- May an item of k be left q? -/
def lessB (q k : Int) : Bool := decide (1 ≤ q) && decide (q < k)
theorem flat_setQ {l : Its} {i : Nat} (hi : i < l.length) (q : Int) : (l.flatMap itC).set (i * 2 + 1) (.int .i64 q) = (l.set i (l[i].1, q)).flatMap itC := by
  induction l generalizing i with
  | nil => simp at hi
  | cons y l ih =>
    cases i with
    | zero => simp [itC]
    | succ i =>
      have := ih (i := i) (by simpa using hi)
      rw [List.flatMap_cons, show (i + 1) * 2 + 1 = (i * 2 + 1) + 2 by omega]
      simp only [List.getElem_cons_succ, List.set_cons_succ, List.flatMap_cons, ← this]
      simp [itC]
theorem Qok.cut {l : Its} (h : Qok l) (id q : Int) (h1 : 1 ≤ q) (h2 : q ≤ 1073741824) : Qok (cutQ id q l) where
  ids := by
    have : (cutQ id q l).map Prod.fst = l.map Prod.fst := by
      unfold cutQ; rw [List.map_map]
      refine List.map_congr_left fun x _ => ?_
      simp only [Function.comp]; split <;> rfl
    rw [this]; exact h.ids
  each := fun x hx => by
    obtain ⟨y, hy, rfl⟩ := List.mem_map.1 hx
    have := h.each y hy
    split
    · exact ⟨h1, h2⟩
    · exact this
  len := by simpa [cutQ] using h.len
theorem Qok.drop {l : Its} (h : Qok l) (id : Int) : Qok (dropQ id l) :=
  ⟨List.Nodup.sublist (List.Sublist.map _ List.filter_sublist) h.ids, fun x hx => h.each x (List.mem_filter.1 hx).1, Nat.le_trans (List.length_filter_le _ _) h.len⟩

set_option maxRecDepth 100000 in
set_option maxHeartbeats 2000000 in
theorem queueCut_no (w : World) (g : Nat) (A : Option Addr) (n c : Nat) (l : Its) (h : QuS w g A n c l) (id q : Int) (x : Itm) (hx : x ∈ l) (hid : x.1 = id) (hq : lessB q x.2 = false) :
    Calls Try.prog 42 #[.pointer (some ⟨g, 0, none⟩), .int .i64 id, .int .i64 q] w fun e w' => e = .returned (.bool false) ∧ Upd [] [] w w' := by
  rcases idxQ_cases id l with ⟨hno, _⟩ | ⟨k, hk, -, hki, hix⟩
  · exact absurd hid (hno x hx)
  obtain rfl : l[k] = x := by
    obtain ⟨j, hj, rfl⟩ := List.getElem_of_mem hx
    have := List.getElem_inj (h₀ := by simpa using hk) (h₁ := by simpa using hj) h.ok.ids |>.1 (by rw [List.getElem_map, List.getElem_map, hki, hid])
    subst this; rfl
  have C := queueFind w _ l h.val id
  rw [hix] at C
  obtain rfl := h.len
  have hkl : (k : Int) < (l.length : Int) := by omega
  have hq2 : q < 1 ∨ 1 ≤ q ∧ l[k].2 ≤ q := by unfold lessB at hq; simp at hq; omega
  obtain ⟨ad, rfl, p0', p1'⟩ := RdS.at_ itC_len h.rd hk
  have p0 := p0' _ rfl
  have p1 := p1' 1 _ (by omega) rfl
  have q0 := h.blk.cell 0
  simp only [List.getElem?_toArray, List.getElem?_cons_zero] at q0
  clear hx hid hq p0' p1' hix hki
  generalize l[k] = x at *
  rcases hq2 with hq | ⟨hq, hq2⟩
  · go_enter Try.func42, Try.ntmps42
    repeat' ((fail_if_success (with_reducible refine stop_append rfl ?_)); (fail_if_success (with_reducible refine stop_copy rfl ?_)); first | go_values | go_skip | go_guarded | go_step | go_upon | (simp only []; go_at_K))
    ((with_reducible refine C.mono ?_); rintro e w1 ⟨rfl, hu1⟩)
    clear C
    repeat' ((fail_if_success (with_reducible refine stop_append rfl ?_)); (fail_if_success (with_reducible refine stop_copy rfl ?_)); first | go_values | go_skip | go_guarded | go_step | go_upon | (simp only []; go_at_K))
    go_ret
    exact ⟨rfl, hu1⟩
  · go_enter Try.func42, Try.ntmps42
    repeat' ((fail_if_success (with_reducible refine stop_append rfl ?_)); (fail_if_success (with_reducible refine stop_copy rfl ?_)); first | go_values | go_skip | go_guarded | go_step | go_upon | (simp only []; go_at_K))
    ((with_reducible refine C.mono ?_); rintro e w1 ⟨rfl, hu1⟩)
    have r0 := hu1.cell p0 (by simp)
    have r1 := hu1.cell p1 (by simp)
    have s0 := hu1.cell q0 (by simp)
    clear C p0 p1 q0
    repeat' ((fail_if_success (with_reducible refine stop_append rfl ?_)); (fail_if_success (with_reducible refine stop_copy rfl ?_)); first | go_values | go_skip | go_guarded | go_step | go_upon | (simp only []; go_at_K))
    go_ret
    exact ⟨rfl, hu1⟩

set_option maxRecDepth 100000 in
set_option maxHeartbeats 2000000 in
theorem queueCut (w : World) (g : Nat) (A : Option Addr) (n c : Nat) (l : Its) (h : QuS w g A n c l) (id q : Int) (x : Itm) (hx : x ∈ l) (hid : x.1 = id) (hq : lessB q x.2 = true) :
    Calls Try.prog 42 #[.pointer (some ⟨g, 0, none⟩), .int .i64 id, .int .i64 q] w fun e w' => e = .returned (.bool true) ∧ QuS w' g A n c (cutQ id q l) ∧ Upd (fpQ g A) (fpQ g A) w w' := by
  rcases idxQ_cases id l with ⟨hno, _⟩ | ⟨k, hk, -, hki, hix⟩
  · exact absurd hid (hno x hx)
  obtain rfl : l[k] = x := by
    obtain ⟨j, hj, rfl⟩ := List.getElem_of_mem hx
    have := List.getElem_inj (h₀ := by simpa using hk) (h₁ := by simpa using hj) h.ok.ids |>.1 (by rw [List.getElem_map, List.getElem_map, hki, hid])
    subst this; rfl
  have C := queueFind w _ l h.val id
  rw [hix] at C
  have hq1 : 1 ≤ q ∧ q < l[k].2 := by unfold lessB at hq; simpa using hq
  have hok := h.ok.cut id q hq1.1 (by have := (h.ok.each _ hx).2; omega)
  have hset := set_cutQ (q := q) hk h.ok.ids hki
  obtain rfl := h.len
  have hkl : (k : Int) < (l.length : Int) := by omega
  obtain ⟨hq, hq2⟩ := hq1
  have HS := Lib.hid hset
  have HI := Lib.hid hki
  have HK := Lib.hid hk
  clear hx hid hix hset hki
  go_enter Try.func42, Try.ntmps42
  repeat' ((fail_if_success (with_reducible refine stop_append rfl ?_)); (fail_if_success (with_reducible refine stop_copy rfl ?_)); first | go_values | go_skip | go_guarded | go_step | go_upon | (simp only []; go_at_K))
  ((with_reducible refine C.mono ?_); rintro e w1 ⟨rfl, hu1⟩)
  have hh := h.upd0 hu1
  obtain ⟨gA, hA, hf, ho, hu⟩ := hh.row.write (k := k * 2 + 1) (by have := HK.out; omega) (.int .i64 q)
  obtain ⟨ad, hA', p0', p1'⟩ := RdS.at_ itC_len hh.rd HK.out
  rw [hA] at hA'
  injection hA' with had
  have hne : g ≠ gA := fun e => hh.out (by rw [hA, e]; simp [ablk])
  have p0 := p0' _ rfl
  have p1 := p1' 1 _ (by omega) rfl
  have q0 := hh.blk.cell 0
  simp only [List.getElem?_toArray, List.getElem?_cons_zero] at q0
  have hp : (⟨(ad.add (k * 2)).block, (ad.add (k * 2)).off + 1, none⟩ : Addr) = ⟨gA, k * 2 + 1, none⟩ := by
    rw [← had, add0]
  rw [flat_setQ HK.out q, HI.out] at ho
  rw [← hp] at hf ho hu
  rw [had] at hA
  have hb1 := hh.blk
  have hlen := hh.len
  rw [HS.out] at ho
  subst hA
  have HP := Lib.hid hp
  have HA := Lib.hid had
  clear C p0' p1' h hh hp had
  generalize l[k] = x at *
  repeat' ((fail_if_success (with_reducible refine stop_append rfl ?_)); (fail_if_success (with_reducible refine stop_copy rfl ?_)); first | go_values | go_skip | go_guarded | go_step | go_upon | (simp only []; go_at_K))
  go_ret
  have hnb : g ∉ ablk (some ad) := by rw [← HA.out]; simpa [ablk] using hne
  refine ⟨rfl, ⟨hb1.upd hu hnb, ho, by simp [cutQ], hok⟩, (hu1.up _).trans (hu.wide (fun k hk => by simp [fpQ, hk]))⟩
end Go.Proofs.Ytdmmpcdilkcfjaa
