/- Frames, as the reference has them: agioref03.Four, number, Put. -/
import Derived.Test.YtdmkhmejpgjioaaDoorCrc
import Derived.Test.YtdmkhmejpgjioaaDoorBase2
set_option linter.all false
namespace Go.Proofs.YtdmkhmejpgjioaaDoor
open Go.RowKit Agio

set_option maxRecDepth 100000 in
set_option maxHeartbeats 1000000 in
theorem refFour (n : Nat) (hn : U32 n) (w : World) :
    Calls Tryd.prog 86 #[.int .u32 (n : Int)] w fun e w' => ∃ A k c, e = .returned (.slice A k c) ∧ OwnB 5 w' A k c (four n) ∧ Upd [] (ablk A) w w' := by
  go_enter Tryd.func86, Tryd.ntmps86
  repeat' ((fail_if_success (with_reducible refine stop_append rfl ?_)); (fail_if_success (with_reducible refine stop_copy rfl ?_)); first | go_values | go_skip | go_guarded | go_step | go_upon | (simp only []; go_at_K))
  go_loopw [0, 3, 4] (fun v0 v3 v4 wr => ∃ (i : Nat) (A : Option Addr) (k c : Nat), i ≤ 4 ∧ v4 = .int .i64 (i : Int) ∧ v0 = .int .u32 ((n / 256 ^ i : Nat) : Int) ∧ v3 = .slice A k c ∧ OwnB 5 wr A k c ((four n).take i) ∧ Upd [] (ablk A) w wr)
    (fun _ _ v4 _ => 4 - (intOf v4).toNat)
  case atStart => exact ⟨0, none, 0, 0, by omega, rfl, by simp, rfl, OwnB.nil _ _, Upd.refl _ _⟩
  case round =>
    obtain ⟨i, A, k, c, hi, rfl, rfl, rfl, ho, hu⟩ := hrel
    have hl : ((four n).take i).length ≤ 4 := by rw [List.length_take]; omega
    have hm : n / 256 ^ i ≤ n := Nat.div_le_self _ _
    have HM : Hid (n / 256 ^ i / 256 = n / 256 ^ (i + 1)) := by unfold Hid; rw [Nat.div_div_eq_div_mul, Nat.pow_succ]
    by_cases hlt : i < 4
    · have HS := Lib.hid (four_step (n := n) hlt)
      generalize n / 256 ^ i = m at *
      repeat' ((fail_if_success (with_reducible refine stop_append rfl ?_)); (fail_if_success (with_reducible refine stop_copy rfl ?_)); first | go_values | go_skip | go_guarded | go_step | go_upon | (simp only []; go_at_K))
      refine wpList_pushB rfl _ _ 24 rfl 5 Tryd.underlying24 infoU8 ho rfl _ rfl _ rfl (m % 256) (by omega) (by omega) (by omega) ?_
      intro A' k' c' w1 ho1 hu1
      rw [show UInt8.ofNat (m % 256) = UInt8.ofNat m by apply UInt8.toNat_inj.1; simp, ← HS.out] at ho1
      repeat' ((fail_if_success (with_reducible refine stop_append rfl ?_)); (fail_if_success (with_reducible refine stop_copy rfl ?_)); first | go_values | go_skip | go_guarded | go_step | go_upon | (simp only []; go_at_K))
      refine ⟨⟨i + 1, A', k', c', by omega, rfl, ?_, rfl, ho1, hu.trans hu1⟩, by simp [intOf]; omega⟩
      have hd : (m : Int) / 256 % 4294967296 = ((m / 256 : Nat) : Int) := by unfold U32 at hn; omega
      rw [hd, HM.out]
    · obtain rfl : i = 4 := by omega
      rw [four_take] at ho
      repeat' ((fail_if_success (with_reducible refine stop_append rfl ?_)); (fail_if_success (with_reducible refine stop_copy rfl ?_)); first | go_values | go_skip | go_guarded | go_step | go_upon | (simp only []; go_at_K))
      go_ret
      exact ⟨A, k, c, rfl, ho, hu⟩

set_option maxRecDepth 100000 in
set_option maxHeartbeats 1000000 in
theorem refNumber (w : World) (A : Option Addr) (n c : Nat) (b : List UInt8) (hr : RdB w A n b) (h4 : 4 ≤ b.length) (hn : b.length ≤ 140737488355328) :
    Calls Tryd.prog 93 #[.slice A n c] w fun e w' => e = .returned (.int .u32 ((num4 b : Nat) : Int)) ∧ w = w' := by
  obtain rfl := hr.len
  have H0 : Hid (hi4 b 0 = num4 b) := rfl
  have H4 : Hid (hi4 b 4 = 0) := rfl
  go_enter Tryd.func93, Tryd.ntmps93
  repeat' ((fail_if_success (with_reducible refine stop_append rfl ?_)); (fail_if_success (with_reducible refine stop_copy rfl ?_)); first | go_values | go_skip | go_guarded | go_step | go_upon | (simp only []; go_at_K))
  go_loop [3, 4] (fun v3 v4 => ∃ x : Int, -1 ≤ x ∧ x ≤ 3 ∧ v4 = .int .i64 x ∧ v3 = .int .u32 ((hi4 b (x + 1).toNat : Nat) : Int)) (fun _ v4 => (intOf v4 + 1).toNat)
  case atStart => exact ⟨3, by omega, by omega, rfl, by rw [show ((3 : Int) + 1).toNat = 4 by omega, H4.out]; rfl⟩
  case round =>
    obtain ⟨x, hx0, hx1, rfl, rfl⟩ := hrel
    by_cases hx : 0 ≤ x
    · obtain ⟨i, rfl⟩ := Int.eq_ofNat_of_zero_le hx
      have hib : i < b.length := by omega
      obtain ⟨ad, u, rfl, hx, hcell⟩ := Rd.at_ hr (k := i) hib
      rw [b8s_get b i hib] at hx
      obtain rfl := Option.some.inj hx
      have HST := Lib.hid (hi4_step (l := b) (k := i) (by omega) hib)
      have hU := hi4_U32 b i
      have hcb := b[i].toNat_lt
      rw [show ((i : Int) + 1).toNat = i + 1 by omega]
      clear hx
      generalize b[i].toNat = cn at *
      repeat' ((fail_if_success (with_reducible refine stop_append rfl ?_)); (fail_if_success (with_reducible refine stop_copy rfl ?_)); first | go_values | go_skip | go_guarded | go_step | go_upon | (simp only []; go_at_K))
      refine ⟨⟨(i : Int) - 1, by omega, by omega, rfl, ?_⟩, by simp [intOf] <;> omega⟩
      rw [show ((i : Int) - 1 + 1).toNat = i by omega, hi4_wrap HST.out hU]
    · obtain rfl : x = -1 := by omega
      repeat' ((fail_if_success (with_reducible refine stop_append rfl ?_)); (fail_if_success (with_reducible refine stop_copy rfl ?_)); first | go_values | go_skip | go_guarded | go_step | go_upon | (simp only []; go_at_K))
      go_ret
      exact ⟨by rw [show ((-1 : Int) + 1).toNat = 0 from rfl, H0.out]; rfl, rfl⟩

set_option maxRecDepth 100000 in
set_option maxHeartbeats 1000000 in
theorem refPut_ok (w : World) (A : Option Addr) (n c : Nat) (b : List UInt8) (hr : RdB w A n b) (hb : b.length ≤ 4096) :
    Calls Tryd.prog 63 #[.slice A n c] w fun e w' => ∃ A' k' c', e = .returned (.tuple #[.slice A' k' c', .int .i64 0]) ∧ OwnB 5 w' A' k' c' (put b) ∧ Upd [] (ablk A') w w' := by
  obtain rfl := hr.len
  have hU : U32 b.length := by unfold U32; omega
  have hS := fsum_U32 (four b.length) b
  have HP : Hid (four b.length ++ four (more (more 0 (four b.length)) b) ++ b = put b) := rfl
  go_enter Tryd.func63, Tryd.ntmps63
  repeat' ((fail_if_success (with_reducible refine stop_append rfl ?_)); (fail_if_success (with_reducible refine stop_copy rfl ?_)); first | go_values | go_skip | go_guarded | go_step | go_upon | (simp only []; go_at_K))
  refine (refFour _ hU w).mono ?_
  rintro e w1 ⟨A1, k1, c1, rfl, ho1, hu1⟩
  have hr1 := hr.upd hu1 (by simp)
  repeat' ((fail_if_success (with_reducible refine stop_append rfl ?_)); (fail_if_success (with_reducible refine stop_copy rfl ?_)); first | go_values | go_skip | go_guarded | go_step | go_upon | (simp only []; go_at_K))
  refine (refSum w1 A1 k1 c1 _ ho1.rd (by simp)).mono ?_
  rintro e w2 ⟨rfl, rfl⟩
  repeat' ((fail_if_success (with_reducible refine stop_append rfl ?_)); (fail_if_success (with_reducible refine stop_copy rfl ?_)); first | go_values | go_skip | go_guarded | go_step | go_upon | (simp only []; go_at_K))
  refine (refMore _ (more_U32 U32.zero _) w1 A b.length c b hr1 (by omega)).mono ?_
  rintro e w2 ⟨rfl, rfl⟩
  have hS' : U32 (more (more 0 (four b.length)) b) := hS
  generalize more (more 0 (four b.length)) b = s at *
  repeat' ((fail_if_success (with_reducible refine stop_append rfl ?_)); (fail_if_success (with_reducible refine stop_copy rfl ?_)); first | go_values | go_skip | go_guarded | go_step | go_upon | (simp only []; go_at_K))
  refine (refFour _ hS' w1).mono ?_
  rintro e w2 ⟨A2, k2, c2, rfl, ho2, hu2⟩
  have ho1 := ho1.upd hu2 (by simp)
  have hr2 := hr1.upd hu2 (by simp)
  repeat' ((fail_if_success (with_reducible refine stop_append rfl ?_)); (fail_if_success (with_reducible refine stop_copy rfl ?_)); first | go_values | go_skip | go_guarded | go_step | go_upon | (simp only []; go_at_K))
  refine wpList_appB rfl _ _ 24 rfl 5 Tryd.underlying24 infoU8 ho1 rfl ho2.rd rfl (by simp) ?_
  intro A3 k3 c3 w3 ho3 hu3
  have U3 := (hu1.trans (hu2.up _)).trans hu3
  have hr3 := hr.upd U3 (by simp)
  repeat' ((fail_if_success (with_reducible refine stop_append rfl ?_)); (fail_if_success (with_reducible refine stop_copy rfl ?_)); first | go_values | go_skip | go_guarded | go_step | go_upon | (simp only []; go_at_K))
  refine wpList_appB rfl _ _ 24 rfl 5 Tryd.underlying24 infoU8 ho3 rfl hr3 rfl (by simp; omega) ?_
  intro A4 k4 c4 w4 ho4 hu4
  repeat' ((fail_if_success (with_reducible refine stop_append rfl ?_)); (fail_if_success (with_reducible refine stop_copy rfl ?_)); first | go_values | go_skip | go_guarded | go_step | go_upon | (simp only []; go_at_K))
  go_ret2
  rw [HP.out] at ho4
  exact ⟨A4, k4, c4, rfl, ho4, U3.trans hu4⟩

/-- What agioref03.Take tells. -/
def Took (w : World) (b : List UInt8) (A : Option Addr) (e : Ending) : Prop :=
  ∃ A1 n1 c1 A2 n2 c2, e = .returned (.tuple #[.slice A1 n1 c1, .slice A2 n2 c2, .int .i64 (((fst b).2 : Nat) : Int)]) ∧
    RdB w A1 n1 (if (fst b).2 = 0 then (b.drop 8).take (fst b).1 else []) ∧ RdB w A2 n2 (if (fst b).2 = 0 then b.drop (8 + (fst b).1) else []) ∧
    n1 ≤ c1 ∧ c1 ≤ maxLen ∧ n2 ≤ c2 ∧ c2 ≤ maxLen ∧ (∀ k, k ∈ ablk A1 ++ ablk A2 → k ∈ ablk A)
theorem Took.bad {w : World} {b : List UInt8} {A : Option Addr} {bad : Nat} (h : fst b = (0, bad)) (h0 : bad ≠ 0) : Took w b A (.returned (.tuple #[.slice none 0 0, .slice none 0 0, .int .i64 (bad : Int)])) := by
  refine ⟨none, 0, 0, none, 0, 0, by rw [h], ?_, ?_, by omega, by simp [maxLen], by omega, by simp [maxLen], by simp [ablk]⟩ <;> rw [h, if_neg h0] <;> exact RdB.nil _ _

theorem Took.ok {w : World} {b : List UInt8} {A : Option Addr} {c m : Nat} (h : fst b = (m, 0)) (hr : RdB w A b.length b) (hc : b.length ≤ c) (hcm : c ≤ maxLen) :
    Took w b A (.returned (.tuple #[.slice (if c = 8 then A else A.map (fun x => ⟨x.block, x.off + 8, none⟩)) m (c - 8), .slice (if c = 8 + m then A else A.map (fun x => x.add (8 + m))) (b.length - (8 + m)) (c - (8 + m)), .int .i64 0])) := by
  obtain ⟨h1, h2, _⟩ := fst_ok h
  have hp := hr.part hc 8 m (by omega)
  have hq := hr.rest hc (8 + m) (by omega)
  have e8 : (fun x : Addr => x.add 8) = (fun x => ⟨x.block, x.off + 8, none⟩) := by funext x; simp [Addr.add]
  rw [e8] at hp
  refine ⟨_, _, _, _, _, _, by rw [h]; rfl, ?_, ?_, by omega, by omega, by omega, by omega, ?_⟩
  · rw [h, if_pos rfl]; exact hp
  · rw [h, if_pos rfl]; exact hq
  · intro k hk
    have q1 := ablk_if (c = 8) A 8
    rw [e8] at q1
    rw [q1, ablk_if] at hk
    simpa using hk

set_option maxRecDepth 100000 in
set_option maxHeartbeats 1000000 in
theorem refTakeF (w : World) (A : Option Addr) (n c : Nat) (b : List UInt8) (hr : RdB w A n b) (hc : n ≤ c) (hcm : c ≤ maxLen) (hb : b.length ≤ 140737488355328) :
    Calls Tryd.prog 70 #[.slice A n c] w fun e w' => Took w b A e ∧ ∃ k, w' = w.drewN k := by
  obtain rfl := hr.len
  by_cases h8 : b.length < 8
  · have H : Hid (fst b = (0, 3)) := by unfold Hid fst; rw [if_pos h8]
    go_enter Tryd.func70, Tryd.ntmps70
    repeat' ((fail_if_success (with_reducible refine stop_append rfl ?_)); (fail_if_success (with_reducible refine stop_copy rfl ?_)); first | go_values | go_skip | go_guarded | go_step | go_upon | (simp only []; go_at_K))
    go_ret3
    exact ⟨Took.bad H.out (by decide), 0, rfl⟩
  have C := refNumber w A b.length c b hr (by omega) hb
  have hU := num4_U32 b
  by_cases h5 : 4096 < num4 b
  · have H : Hid (fst b = (0, 5)) := by unfold Hid fst; rw [if_neg h8, if_pos h5]
    generalize num4 b = m at *
    go_enter Tryd.func70, Tryd.ntmps70
    repeat' ((fail_if_success (with_reducible refine stop_append rfl ?_)); (fail_if_success (with_reducible refine stop_copy rfl ?_)); first | go_values | go_skip | go_guarded | go_step | go_upon | (simp only []; go_at_K))
    refine C.mono ?_
    rintro e w1 ⟨rfl, rfl⟩
    repeat' ((fail_if_success (with_reducible refine stop_append rfl ?_)); (fail_if_success (with_reducible refine stop_copy rfl ?_)); first | go_values | go_skip | go_guarded | go_step | go_upon | (simp only []; go_at_K))
    go_ret3
    exact ⟨Took.bad H.out (by decide), 0, rfl⟩
  by_cases h3 : b.length - 8 < num4 b
  · have H : Hid (fst b = (0, 3)) := by unfold Hid fst; rw [if_neg h8, if_neg h5, if_pos h3]
    generalize num4 b = m at *
    go_enter Tryd.func70, Tryd.ntmps70
    repeat' ((fail_if_success (with_reducible refine stop_append rfl ?_)); (fail_if_success (with_reducible refine stop_copy rfl ?_)); first | go_values | go_skip | go_guarded | go_step | go_upon | (simp only []; go_at_K))
    refine C.mono ?_
    rintro e w1 ⟨rfl, rfl⟩
    have hd : decide ((b.length : Int) - 8 < m) = true := decide_eq_true (by omega)
    repeat' ((fail_if_success (with_reducible refine stop_append rfl ?_)); (fail_if_success (with_reducible refine stop_copy rfl ?_)); first | go_values | go_skip | go_guarded | go_step | go_upon | (simp only []; go_at_K))
    go_ret3
    exact ⟨Took.bad H.out (by decide), 0, rfl⟩
  have hdh : decide ((b.length : Int) - 8 < (num4 b : Nat)) = false := decide_eq_false (by omega)
  have hx1 : (num4 b : Int) + 8 ≤ (c : Int) := by omega
  have hx2 : (b.length : Int) ≤ (c : Int) := by omega
  have hx3 : (8 : Int) ≤ (b.length : Int) := by omega
  have hx4 : (4 : Int) ≤ (b.length : Int) := by omega
  have hx5 : (4 : Int) ≤ (c : Int) := by omega
  have hcM : (c : Int) ≤ 9223372036854775807 := by unfold maxLen at hcm; omega
  have hp : RdB w (if c = 8 then A else A.map (fun x => ⟨x.block, x.off + 8, none⟩)) (num4 b) ((b.drop 8).take (num4 b)) := by
    have := hr.part hc 8 (num4 b) (by omega)
    simpa [Addr.add] using this
  have hp2 := hr.rest hc (8 + num4 b) (by omega)
  have hp4 := hr.pre 4 (by omega)
  have hq4 : RdB w (if c = 4 then A else A.map (fun x => ⟨x.block, x.off + 4, none⟩)) (b.length - 4) (b.drop 4) := by simpa [Addr.add] using hr.rest hc 4 (by omega)
  have C4 := fun N => refNumber (w.drewN N) _ _ (c - 4) _ (hq4.drewN N) (by simp; omega) (by simp; omega)
  have CS := fun N => refSum (w.drewN N) _ _ c _ (hp4.drewN N) (by simp; omega)
  have CM := fun N => refMore _ (more_U32 U32.zero (b.take 4)) (w.drewN N) _ _ (c - 8) _ (hp.drewN N) (by simp; omega)
  have HB : Hid (fsum (b.take 4) ((b.drop 8).take (num4 b)) = more (more 0 (b.take 4)) ((b.drop 8).take (num4 b))) := rfl
  have HF : Hid (fst b = if num4 (b.drop 4) ≠ fsum (b.take 4) ((b.drop 8).take (num4 b)) then (0, 4) else (num4 b, 0)) := by unfold Hid fst; rw [if_neg h8, if_neg h5, if_neg h3]
  generalize num4 b = m at *
  have HSUB : Hid (8 + m - 8 = m) := by unfold Hid; omega
  go_enter Tryd.func70, Tryd.ntmps70
  repeat' ((fail_if_success (with_reducible refine stop_append rfl ?_)); (fail_if_success (with_reducible refine stop_copy rfl ?_)); first | go_values | go_skip | go_guarded | go_step | go_upon | (simp only []; go_at_K))
  refine C.mono ?_
  rintro e w1 ⟨rfl, rfl⟩
  repeat' ((fail_if_success (with_reducible refine stop_append rfl ?_)); (fail_if_success (with_reducible refine stop_copy rfl ?_)); first | go_values | go_skip | go_guarded | go_step | go_upon | (simp only []; go_at_K))
  rw [HSUB.out]
  go_quiet ((first | (go_at_call 93; with_reducible exact quiet_eq (C4 _)) | (go_at_call 88; with_reducible exact quiet_eq (CS _)) | (go_at_call 87; with_reducible exact quiet_eq (CM _))))
  generalize more (more 0 (b.take 4)) ((b.drop 8).take m) = x at *
  rw [HB.out] at HF
  generalize num4 (b.drop 4) = y at *
  clear CS CM C4 C hp4 hq4
  by_cases hxy : y = x
  · have H : Hid (fst b = (m, 0)) := by have := HF.out; rw [if_neg (by simpa using hxy)] at this; exact this
    have ht : ((x : Int) != (y : Int)) = false := by rw [hxy]; simp
    clear HF HB hxy
    repeat' ((fail_if_success (with_reducible refine stop_append rfl ?_)); (fail_if_success (with_reducible refine stop_copy rfl ?_)); first | go_values | go_skip | go_guarded | go_step | go_upon | (simp only []; go_at_K))
    go_quiet (fail)
    repeat' ((fail_if_success (with_reducible refine stop_append rfl ?_)); (fail_if_success (with_reducible refine stop_copy rfl ?_)); first | go_values | go_skip | go_guarded | go_step | go_upon | (simp only []; go_at_K))
    go_ret3
    exact ⟨Took.ok H.out hr hc hcm, by first | exact ⟨_, rfl⟩ | exact ⟨_, World.drewN_drewN _ _ _⟩⟩
  · have H : Hid (fst b = (0, 4)) := by have := HF.out; rw [if_pos hxy] at this; exact this
    have ht : ((x : Int) != (y : Int)) = true := by simp; omega
    clear HF HB hxy
    repeat' ((fail_if_success (with_reducible refine stop_append rfl ?_)); (fail_if_success (with_reducible refine stop_copy rfl ?_)); first | go_values | go_skip | go_guarded | go_step | go_upon | (simp only []; go_at_K))
    go_ret3
    exact ⟨Took.bad H.out (by decide), nq, rfl⟩
end Go.Proofs.YtdmkhmejpgjioaaDoor
