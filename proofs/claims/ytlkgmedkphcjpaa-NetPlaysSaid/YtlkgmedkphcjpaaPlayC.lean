/- agioref13: Double, First; net.First; net.Spoil's refusal. -/
import Derived.Test.YtlkgmedkphcjpaaPlayA
import Derived.Deep.RegionHeld3
namespace Go.Proofs.Ytlkgmedkphcjpaa
open Go.RowKit Agio

set_option maxRecDepth 100000 in
theorem refDouble_no (w : World) (A : Option Addr) (n c : Nat) (i : Int) (ht : thereB n i = false) :
    Calls Try.prog 19 #[.slice A n c, .int .i64 i] w fun e w' => e = .returned (.tuple #[.slice A n c, .int .i64 6]) ∧ w = w' := by
  have C := refHas w A n c i
  rw [ht] at C
  clear ht
  go_enter Try.func19, Try.ntmps19
  repeat' ((fail_if_success (with_reducible refine stop_append rfl ?_)); (fail_if_success (with_reducible refine stop_copy rfl ?_)); first | go_values | go_skip | go_guarded | go_step | go_upon | (simp only []; go_at_K))
  ((with_reducible refine C.mono ?_); rintro e w1 ⟨rfl, rfl⟩)
  repeat' ((fail_if_success (with_reducible refine stop_append rfl ?_)); (fail_if_success (with_reducible refine stop_copy rfl ?_)); first | go_values | go_skip | go_guarded | go_step | go_upon | (simp only []; go_at_K))
  go_ret2
  exact ⟨rfl, rfl⟩

set_option maxRecDepth 100000 in
set_option maxHeartbeats 2000000 in
theorem refDouble (w : World) (A : Option Addr) (n c : Nat) (l : List Pk) (h : RdS Pk.cells 2 w A n l) (i : Nat) (hi : i < l.length) (hl : l.length < 4096) (x : Pk) (hx : l[i] = x) (hs : siteB x.to = true) :
    Calls Try.prog 19 #[.slice A n c, .int .i64 (i : Int)] w (Sent13 x l w) := by
  have hn := h.len
  have hin : (i : Int) < (n : Int) := by omega
  have ht : thereB n (i : Int) = true := by unfold thereB; simp; omega
  have C := refHas w A n c (i : Int)
  rw [ht] at C
  obtain ⟨ad, rfl, p0', p1'⟩ := RdS.at_ Pk.cells_len h hi
  rw [hx] at p0' p1'
  have p0 := p0' _ rfl
  have p1 := p1' 1 _ (by omega) rfl
  have D := refSend w.drew (some ad) n c l ⟨h.len, h.rd⟩ x.to x.A x.n x.c x.b hs hl
  clear ht hn p0' p1' hs h hx hi hl
  go_enter Try.func19, Try.ntmps19
  repeat' ((fail_if_success (with_reducible refine stop_append rfl ?_)); (fail_if_success (with_reducible refine stop_copy rfl ?_)); first | go_values | go_skip | go_guarded | go_step | go_upon | (simp only []; go_at_K))
  ((with_reducible refine C.mono ?_); rintro e w1 ⟨rfl, rfl⟩)
  repeat' ((fail_if_success (with_reducible refine stop_append rfl ?_)); (fail_if_success (with_reducible refine stop_copy rfl ?_)); first | go_values | go_skip | go_guarded | go_step | go_upon | (simp only []; go_at_K))
  have p0d : w.drew.cell? (ad.add (i * 2)) = some (.int .i64 x.to) := p0
  have p1d : w.drew.cell? ⟨(ad.add (i * 2)).block, (ad.add (i * 2)).off + 1, none⟩ = some (.slice x.A x.n x.c) := p1
  clear p0 p1
  go_region_held3 (fun w' => w'.cell? (ad.add (i * 2)) = some (.int .i64 x.to) ∧ w'.cell? ⟨(ad.add (i * 2)).block, (ad.add (i * 2)).off + 1, none⟩ = some (.slice x.A x.n x.c)) (first | exact ⟨p0d, p1d⟩ | exact ⟨p02, p12⟩)
    (first | (go_at_call 15; (with_reducible refine D.mono ?_); rintro e w2 ⟨A', n', c', rfl, ho, hn', hu⟩; have HN' := Lib.hid hn'; clear hn'; have p02 := hu.cell p0d (by simp); have p12 := hu.cell p1d (by simp)))
  all_goals (repeat' ((fail_if_success (with_reducible refine stop_append rfl ?_)); (fail_if_success (with_reducible refine stop_copy rfl ?_)); first | go_values | go_skip | go_guarded | go_step | go_upon | (simp only []; go_at_K)))
  all_goals go_ret2
  all_goals exact ⟨A', n', c', rfl, ho, HN'.out, (((Upd.refl [] w).drew).trans hu)⟩

/-- The place of the first number that is another's. -/
def firstI : List Int → Int → Nat → Int
  | [], _, _ => -1
  | x :: l, t, k => if x = t then (k : Int) else firstI l t (k + 1)
theorem firstI_at {L : List Int} {i : Nat} (hi : i < L.length) {t : Int} (h : L[i] = t) : firstI (L.drop i) t i = (i : Int) := by
  rw [List.drop_eq_getElem_cons hi]
  simp [firstI, h]
theorem firstI_on {L : List Int} {i : Nat} (hi : i < L.length) {t : Int} (h : ¬ L[i] = t) : firstI (L.drop i) t i = firstI (L.drop (i + 1)) t (i + 1) := by
  rw [List.drop_eq_getElem_cons hi]
  simp [firstI, h]
theorem firstI_end {L : List Int} {t : Int} : firstI (L.drop L.length) t L.length = -1 := by simp [firstI]

set_option maxRecDepth 100000 in
set_option maxHeartbeats 2000000 in
theorem refFirst (w : World) (A : Option Addr) (n c : Nat) (l : List Pk) (h : RdS Pk.cells 2 w A n l) (hl : l.length ≤ 5000) (to : Int) :
    Calls Try.prog 23 #[.slice A n c, .int .i64 to] w fun e w' => e = .returned (.int .i64 (firstI (l.map Pk.to) to 0)) ∧ w = w' := by
  obtain rfl := h.len
  have key : firstI (l.map Pk.to) to 0 = firstI ((l.map Pk.to).drop 0) to 0 := by simp
  generalize hR : firstI (l.map Pk.to) to 0 = R at *
  clear hR
  go_enter Try.func23, Try.ntmps23
  repeat' ((fail_if_success (with_reducible refine stop_append rfl ?_)); (fail_if_success (with_reducible refine stop_copy rfl ?_)); first | go_values | go_skip | go_guarded | go_step | go_upon | (simp only []; go_at_K))
  go_loopw [5] (fun v5 wr => ∃ i : Nat, i ≤ l.length ∧ v5 = .int .i64 (i : Int) ∧ R = firstI ((l.map Pk.to).drop i) to i ∧ w = wr)
    (fun v5 _ => l.length - (intOf v5).toNat)
  case atStart => exact ⟨0, by omega, rfl, key, rfl⟩
  case round =>
    obtain ⟨i, hi, rfl, hk, rfl⟩ := hrel
    clear key
    rcases Nat.lt_or_ge i l.length with h1 | h1
    · have hii : (i : Int) < (l.length : Int) := by omega
      obtain ⟨ad, rfl, p0', -⟩ := RdS.at_ Pk.cells_len h h1
      have p0 := p0' _ rfl
      clear p0'
      by_cases he : l[i].to = to
      · have hR : R = (i : Int) := by rw [hk, firstI_at (by simpa using h1) (by simpa using he)]
        subst hR
        clear hk
        generalize l[i].to = t at *
        subst he
        repeat' ((fail_if_success (with_reducible refine stop_append rfl ?_)); (fail_if_success (with_reducible refine stop_copy rfl ?_)); first | go_values | go_skip | go_guarded | go_step | go_upon | (simp only []; go_at_K))
        go_ret
        exact ⟨rfl, rfl⟩
      · have hR : R = firstI ((l.map Pk.to).drop (i + 1)) to (i + 1) := by rw [hk, firstI_on (by simpa using h1) (by simpa using he)]
        clear hk
        generalize l[i].to = t at *
        have hw1 : IntKind.i64.wrap ((i : Int) + 1) = (i : Int) + 1 := by rw [IntKind.wrap_i64]; omega
        have HR := Lib.hid hR
        clear hR
        repeat' ((fail_if_success (with_reducible refine stop_append rfl ?_)); (fail_if_success (with_reducible refine stop_copy rfl ?_)); first | go_values | go_skip | go_guarded | go_step | go_upon | (simp only []; go_at_K))
        exact ⟨⟨i + 1, by omega, by simp, HR.out, trivial⟩, by simp [intOf]; omega⟩
    · obtain rfl : i = l.length := by omega
      have hii : ¬ ((l.length : Int) < (l.length : Int)) := by omega
      have hR : R = -1 := by rw [hk]; have := @firstI_end (l.map Pk.to) to; simpa using this
      subst hR
      clear hk
      repeat' ((fail_if_success (with_reducible refine stop_append rfl ?_)); (fail_if_success (with_reducible refine stop_copy rfl ?_)); first | go_values | go_skip | go_guarded | go_step | go_upon | (simp only []; go_at_K))
      go_ret
      exact ⟨rfl, rfl⟩

set_option maxRecDepth 100000 in
set_option maxHeartbeats 2000000 in
theorem netFirst (w : World) (g : Nat) (A : Option Addr) (n c : Nat) (l : List Pk) (h : NetS w g A n c l) (to : Int) :
    Calls Try.prog 22 #[.pointer (some ⟨g, 0, none⟩), .int .i64 to] w fun e w' => e = .returned (.int .i64 (firstI (l.map Pk.to) to 0)) ∧ Upd [] [] w w' := by
  obtain rfl := h.len
  have hle := h.le
  have q := h.blk.cell 0
  simp only [List.getElem?_toArray, List.getElem?_cons_zero] at q
  have key : firstI (l.map Pk.to) to 0 = firstI ((l.map Pk.to).drop 0) to 0 := by simp
  generalize hR : firstI (l.map Pk.to) to 0 = R at *
  clear hR
  go_enter Try.func22, Try.ntmps22
  repeat' ((fail_if_success (with_reducible refine stop_append rfl ?_)); (fail_if_success (with_reducible refine stop_copy rfl ?_)); first | go_values | go_skip | go_guarded | go_step | go_upon | (simp only []; go_at_K))
  go_loopw [14] (fun v14 wr => ∃ i : Nat, i ≤ l.length ∧ v14 = .int .i64 (i : Int) ∧ R = firstI ((l.map Pk.to).drop i) to i ∧ Upd [] [] w wr)
    (fun v14 _ => l.length - (intOf v14).toNat)
  case atStart => exact ⟨0, by omega, rfl, key, Upd.refl _ _⟩
  case round =>
    obtain ⟨i, hi, rfl, hk, hu⟩ := hrel
    clear key q
    rcases Nat.lt_or_ge i l.length with h1 | h1
    · have hii : (i : Int) < (l.length : Int) := by omega
      obtain ⟨ad, rfl, p0', p1'⟩ := RdS.at_ Pk.cells_len (h.row.rdS.upd0 hu) h1
      have p0 := p0' _ rfl
      have p1 := p1' 1 _ (by omega) rfl
      clear p0' p1'
      by_cases he : l[i].to = to
      · have hR : R = (i : Int) := by rw [hk, firstI_at (by simpa using h1) (by simpa using he)]
        subst hR
        clear hk
        generalize l[i].to = t at *
        subst he
        repeat' ((fail_if_success (with_reducible refine stop_append rfl ?_)); (fail_if_success (with_reducible refine stop_copy rfl ?_)); first | go_values | go_skip | go_guarded | go_step | go_upon | (simp only []; go_at_K))
        go_ret
        exact ⟨rfl, hu.alloc _⟩
      · have hR : R = firstI ((l.map Pk.to).drop (i + 1)) to (i + 1) := by rw [hk, firstI_on (by simpa using h1) (by simpa using he)]
        clear hk
        generalize l[i].to = t at *
        have hw1 : IntKind.i64.wrap ((i : Int) + 1) = (i : Int) + 1 := by rw [IntKind.wrap_i64]; omega
        have HR := Lib.hid hR
        clear hR
        repeat' ((fail_if_success (with_reducible refine stop_append rfl ?_)); (fail_if_success (with_reducible refine stop_copy rfl ?_)); first | go_values | go_skip | go_guarded | go_step | go_upon | (simp only []; go_at_K))
        exact ⟨⟨i + 1, by omega, by simp, HR.out, hu.alloc _⟩, by simp [intOf]; omega⟩
    · obtain rfl : i = l.length := by omega
      have hii : ¬ ((l.length : Int) < (l.length : Int)) := by omega
      have hR : R = -1 := by rw [hk]; have := @firstI_end (l.map Pk.to) to; simpa using this
      subst hR
      clear hk
      repeat' ((fail_if_success (with_reducible refine stop_append rfl ?_)); (fail_if_success (with_reducible refine stop_copy rfl ?_)); first | go_values | go_skip | go_guarded | go_step | go_upon | (simp only []; go_at_K))
      go_ret
      exact ⟨rfl, hu⟩
end Go.Proofs.Ytlkgmedkphcjpaa
