/- agioref02.Zag, Small, Take. -/
import Derived.Test.YtdmmpcdilkcfjaaGet
namespace Go.Proofs.Ytdmmpcdilkcfjaa
open Go.RowKit Agio

set_option maxRecDepth 100000 in
set_option maxHeartbeats 1000000 in
theorem refSmall (w : World) (A : Option Addr) (n c : Nat) (b : List UInt8) (hr : RdB w A n b) (hn : b.length ≤ 140737488355328) (a : Nat) (ha : a ≤ b.length) (most : Int) (hm : I64 most) :
    Calls Try.prog 87 #[.slice A n c, .int .i64 (a : Int), .int .i64 most] w fun e w' => e = .returned (.tuple #[.int .i64 ((upt most (b.drop a)).1 : Int), .int .i64 ((upt most (b.drop a)).2.1 : Int), .int .i64 ((upt most (b.drop a)).2.2 : Int)]) ∧ w = w' := by
  have C := refGet w A n c b hr hn a ha
  generalize b.drop a = l at C ⊢
  obtain ⟨m, sz, bad, hu⟩ : ∃ m sz bad, uv l = (m, sz, bad) := ⟨_, _, _, rfl⟩
  have hok := uv_ok (l := l)
  unfold I64 at hm
  rw [hu] at C hok
  by_cases h0 : bad = 0
  · subst h0
    have hU := (hok rfl).2.2.2
    have hs := (hok rfl).2.2.1
    clear hok
    by_cases h1 : most < 0
    · have E : Hid (upt most l = (0, 0, 8)) := by unfold upt Hid; rw [hu]; simp [h1]
      clear hu
      go_enter Try.func87, Try.ntmps87
      repeat' ((fail_if_success (with_reducible refine stop_append rfl ?_)); (fail_if_success (with_reducible refine stop_copy rfl ?_)); first | go_values | go_skip | go_guarded | go_step | go_upon | (simp only []; go_at_K))
      refine C.mono ?_
      rintro e w1 ⟨rfl, rfl⟩
      repeat' ((fail_if_success (with_reducible refine stop_append rfl ?_)); (fail_if_success (with_reducible refine stop_copy rfl ?_)); first | go_values | go_skip | go_guarded | go_step | go_upon | (simp only []; go_at_K))
      go_ret3
      exact ⟨by rw [E.out]; rfl, rfl⟩
    · by_cases h2 : most < (m : Int)
      · have E : Hid (upt most l = (0, 0, 8)) := by unfold upt Hid; rw [hu]; simp [h1, h2]
        clear hu
        go_enter Try.func87, Try.ntmps87
        repeat' ((fail_if_success (with_reducible refine stop_append rfl ?_)); (fail_if_success (with_reducible refine stop_copy rfl ?_)); first | go_values | go_skip | go_guarded | go_step | go_upon | (simp only []; go_at_K))
        refine C.mono ?_
        rintro e w1 ⟨rfl, rfl⟩
        repeat' ((fail_if_success (with_reducible refine stop_append rfl ?_)); (fail_if_success (with_reducible refine stop_copy rfl ?_)); first | go_values | go_skip | go_guarded | go_step | go_upon | (simp only []; go_at_K))
        go_ret3
        exact ⟨by rw [E.out]; rfl, rfl⟩
      · have E : Hid (upt most l = (m, sz, 0)) := by unfold upt Hid; rw [hu]; simp [h1, h2]
        clear hu
        go_enter Try.func87, Try.ntmps87
        repeat' ((fail_if_success (with_reducible refine stop_append rfl ?_)); (fail_if_success (with_reducible refine stop_copy rfl ?_)); first | go_values | go_skip | go_guarded | go_step | go_upon | (simp only []; go_at_K))
        refine C.mono ?_
        rintro e w1 ⟨rfl, rfl⟩
        repeat' ((fail_if_success (with_reducible refine stop_append rfl ?_)); (fail_if_success (with_reducible refine stop_copy rfl ?_)); first | go_values | go_skip | go_guarded | go_step | go_upon | (simp only []; go_at_K))
        go_ret3
        exact ⟨by rw [E.out]; rfl, rfl⟩
  · have E : Hid (upt most l = (0, 0, bad)) := by unfold upt Hid; rw [hu]; simp [h0]
    have h0n : ((bad : Int) != 0) = true := by simp; omega
    clear hu hok
    go_enter Try.func87, Try.ntmps87
    repeat' ((fail_if_success (with_reducible refine stop_append rfl ?_)); (fail_if_success (with_reducible refine stop_copy rfl ?_)); first | go_values | go_skip | go_guarded | go_step | go_upon | (simp only []; go_at_K))
    refine C.mono ?_
    rintro e w1 ⟨rfl, rfl⟩
    repeat' ((fail_if_success (with_reducible refine stop_append rfl ?_)); (fail_if_success (with_reducible refine stop_copy rfl ?_)); first | go_values | go_skip | go_guarded | go_step | go_upon | (simp only []; go_at_K))
    go_ret3
    exact ⟨by rw [E.out]; rfl, rfl⟩

set_option maxRecDepth 100000 in
set_option maxHeartbeats 1000000 in
theorem refTake (w : World) (A : Option Addr) (n c : Nat) (b : List UInt8) (hr : RdB w A n b) (hc : n ≤ c) (hcm : c ≤ maxLen) (hn : b.length ≤ 140737488355328) (a : Nat) (ha : a ≤ b.length) (most : Int) (hm : I64 most) :
    Calls Try.prog 88 #[.slice A n c, .int .i64 (a : Int), .int .i64 most] w fun e w' => ∃ A' k' c', e = .returned (.tuple #[.slice A' k' c', .int .i64 ((tk most (b.drop a)).2.1 : Int), .int .i64 ((tk most (b.drop a)).2.2 : Int)]) ∧
      OwnB 5 w' A' k' c' (tk most (b.drop a)).1 ∧ Upd [] (ablk A') w w' := by
  obtain rfl := hr.len
  have C := refSmall w A b.length c b hr hn a ha most hm
  have hok := upt_ok (l := b.drop a) (most := most)
  have huv := uv_ok (l := b.drop a)
  have hll : (b.drop a).length = b.length - a := by simp
  rw [hll] at huv
  have HV := Lib.hid huv; clear huv
  have HL := Lib.hid hll; clear hll
  obtain ⟨m, sz, bad, hu⟩ : ∃ m sz bad, upt most (b.drop a) = (m, sz, bad) := ⟨_, _, _, rfl⟩
  rw [hu] at C hok
  have HT := Lib.hid hu; clear hu
  by_cases h0 : bad = 0
  · subst h0
    obtain ⟨h1, h2, h3, h4⟩ := hok rfl
    have h5 := HV.out h1
    rw [← h2] at h5 h4
    have hs : sz ≤ 10 := h5.2.2.1
    have hs2 : sz ≤ b.length - a := h5.2.1
    have hnm : (m : Int) ≤ most := h4
    have hI : (m : Int) ≤ 9223372036854775807 := by unfold I64 at hm; omega
    have hcM : (c : Int) ≤ 9223372036854775807 := by unfold maxLen at hcm; omega
    clear hok h1 h2 h5 HV h4
    by_cases hlt : b.length - a - sz < m
    · have E : Hid (tk most (b.drop a) = ([], 0, 3)) := tk_short HT.out (by rw [HL.out]; exact hlt)
      clear HT
      rw [E.out]
      have hd : decide ((b.length : Int) - a - sz < m) = true := decide_eq_true (by omega)
      clear hlt
      go_enter Try.func88, Try.ntmps88
      repeat' ((fail_if_success (with_reducible refine stop_append rfl ?_)); (fail_if_success (with_reducible refine stop_copy rfl ?_)); first | go_values | go_skip | go_guarded | go_step | go_upon | (simp only []; go_at_K))
      refine C.mono ?_
      rintro e w1 ⟨rfl, rfl⟩
      repeat' ((fail_if_success (with_reducible refine stop_append rfl ?_)); (fail_if_success (with_reducible refine stop_copy rfl ?_)); first | go_values | go_skip | go_guarded | go_step | go_upon | (simp only []; go_at_K))
      go_ret3
      exact ⟨none, 0, 0, rfl, OwnB.nil _ _, Upd.refl _ _⟩
    · have E : Hid (tk most (b.drop a) = (((b.drop a).drop sz).take m, sz + m, 0)) := tk_ok HT.out (by rw [HL.out]; exact hlt)
      clear HT
      rw [E.out]
      have hd : decide ((b.length : Int) - a - sz < m) = false := decide_eq_false (by omega)
      have hx1 : (0 : Int) ≤ (a : Int) + sz := by omega
      have hx2 : (a : Int) + sz ≤ (a : Int) + sz + m := by omega
      have hx3 : (a : Int) + sz + m ≤ (c : Int) := by omega
      have hrd : RdB w (if c = a + sz then A else Option.map (fun x => x.add (a + sz)) A) m (((b.drop a).drop sz).take m) := by
        have h1 := (hr.cut (k := a + sz) (cap := c) (by omega) hc).take (k := m) (by omega)
        simpa [RdB, b8s, List.map_drop, List.map_take, List.drop_drop] using h1
      have hsub : a + sz + m - (a + sz) = m := by omega
      have HSUB := Lib.hid hsub; clear hsub
      have hle : (((b.drop a).drop sz).take m).length ≤ 140737488355328 := by simp; omega
      clear hlt
      go_enter Try.func88, Try.ntmps88
      repeat' ((fail_if_success (with_reducible refine stop_append rfl ?_)); (fail_if_success (with_reducible refine stop_copy rfl ?_)); first | go_values | go_skip | go_guarded | go_step | go_upon | (simp only []; go_at_K))
      refine C.mono ?_
      rintro e w1 ⟨rfl, rfl⟩
      repeat' ((fail_if_success (with_reducible refine stop_append rfl ?_)); (fail_if_success (with_reducible refine stop_copy rfl ?_)); first | go_values | go_skip | go_guarded | go_step | go_upon | (simp only []; go_at_K))
      rw [HSUB.out]
      refine wpList_appB rfl _ _ 22 rfl 5 Try.underlying22 infoU8 (OwnB.made _ _) rfl (hrd.alloc _) rfl (by simpa using hle) ?_
      intro A2 k2 c2 w2 ho2 hu2
      repeat' ((fail_if_success (with_reducible refine stop_append rfl ?_)); (fail_if_success (with_reducible refine stop_copy rfl ?_)); first | go_values | go_skip | go_guarded | go_step | go_upon | (simp only []; go_at_K))
      go_ret3
      exact ⟨A2, k2, c2, rfl, by simpa using ho2, (((Upd.refl [] w).alloc _).gives (by simp [ablk])).trans hu2⟩
  · have E : Hid (tk most (b.drop a) = ([], 0, bad)) := tk_bad HT.out h0
    have h0n : ((bad : Int) != 0) = true := by simp; omega
    clear hok HV HT
    rw [E.out]
    go_enter Try.func88, Try.ntmps88
    repeat' ((fail_if_success (with_reducible refine stop_append rfl ?_)); (fail_if_success (with_reducible refine stop_copy rfl ?_)); first | go_values | go_skip | go_guarded | go_step | go_upon | (simp only []; go_at_K))
    refine C.mono ?_
    rintro e w1 ⟨rfl, rfl⟩
    repeat' ((fail_if_success (with_reducible refine stop_append rfl ?_)); (fail_if_success (with_reducible refine stop_copy rfl ?_)); first | go_values | go_skip | go_guarded | go_step | go_upon | (simp only []; go_at_K))
    go_ret3
    exact ⟨none, 0, 0, rfl, OwnB.nil _ _, Upd.refl _ _⟩
end Go.Proofs.Ytdmmpcdilkcfjaa
