/- agiolaw20: pick, filled: a side of some orders. -/
import Derived.Test.YtdmmpcdilkcfjaaSideD
namespace Go.Proofs.Ytdmmpcdilkcfjaa
open Go.RowKit Agio Go.Maps

/-- The order of number i + 1. -/
def mkO (s : Int) (i : Nat) (b : UInt8) : Ord := ⟨(i : Int) + 1, 1, s, (b.toNat : Int) % 16 + 1, (i : Int) + 2, false, 0⟩
/-- The first k of them, as they stand. -/
def fillL (s : Int) (b : List UInt8) : Nat → List Ord
  | 0 => []
  | k + 1 => insO s (mkO s k (b.getD k 0)) (fillL s b k)
theorem fillL_len (s : Int) (b : List UInt8) (k : Nat) : (fillL s b k).length = k := by
  induction k with
  | zero => rfl
  | succ k ih => rw [fillL, insO_len, ih]
theorem fillL_ids {s : Int} {b : List UInt8} {k : Nat} {o : Ord} (h : o ∈ fillL s b k) : 1 ≤ o.id ∧ o.id ≤ (k : Int) ∧ o.qty = o.id + 1 ∧ 1 ≤ o.price ∧ o.price ≤ 16 ∧ o.client = 1 ∧ o.side = s ∧ o.peg = false ∧ o.off = 0 := by
  induction k with
  | zero => cases h
  | succ k ih =>
    rcases mem_insO.1 h with rfl | h
    · simp [mkO]
      omega
    · obtain ⟨h1, h2, h3, h4, h5, h6⟩ := ih h
      refine ⟨h1, ?_, h3, h4, h5, h6⟩
      push_cast
      omega
theorem fillL_none (s : Int) (b : List UInt8) (k : Nat) : findO ((k : Int) + 1) (fillL s b k) = none := by
  unfold findO
  rw [List.find?_eq_none]
  intro o ho
  have := fillL_ids ho
  simp; omega
theorem mkO_may (s : Int) {i : Nat} (hi : i ≤ 60) (b : UInt8) : mayO s (mkO s i b) = true := by
  simp [mayO, mkO]
  omega
/-- How two neighbours stand. -/
def Ahead (s : Int) (a b : Ord) : Prop := better s a.price b.price = true ∨ (a.price = b.price ∧ a.id < b.id)
theorem Ahead_ins {s : Int} {o : Ord} {L : List Ord} (h : L.Pairwise (Ahead s)) (hi : ∀ x ∈ L, x.id < o.id) : (insO s o L).Pairwise (Ahead s) := by
  induction L with
  | nil => simp [insO]
  | cons x r ih =>
    obtain ⟨h1, h2⟩ := List.pairwise_cons.1 h
    unfold insO
    split
    · rename_i hb
      refine List.pairwise_cons.2 ⟨fun y hy => ?_, h⟩
      rcases List.mem_cons.1 hy with rfl | hy
      · exact .inl hb
      · rcases h1 y hy with e | ⟨e, _⟩
        · exact .inl (better_trans hb e)
        · exact .inl (by rw [← e]; exact hb)
    · rename_i hb
      refine List.pairwise_cons.2 ⟨fun y hy => ?_, ih h2 fun y hy => hi y (List.mem_cons_of_mem _ hy)⟩
      rcases mem_insO.1 hy with rfl | hy
      · by_cases e : x.price = y.price
        · exact .inr ⟨e, hi x (by simp)⟩
        · exact .inl (better_of_not (by simpa using hb) (fun e2 => e e2.symm))
      · exact h1 y hy
theorem fillL_ahead (s : Int) (b : List UInt8) (k : Nat) : (fillL s b k).Pairwise (Ahead s) := by
  induction k with
  | zero => exact .nil
  | succ k ih => exact Ahead_ins ih fun x hx => by have := fillL_ids hx; simp only [mkO]; omega

set_option maxRecDepth 100000 in
theorem law20Pick (w : World) (sell : Bool) : Calls Try.prog 9 #[.bool sell] w fun e w' => e = .returned (.int .i64 (if sell = true then 2 else 1)) ∧ w = w' := by
  cases sell
  all_goals
    go_enter Try.func9, Try.ntmps9
    repeat' ((fail_if_success (with_reducible refine stop_append rfl ?_)); (fail_if_success (with_reducible refine stop_copy rfl ?_)); first | go_values | go_skip | go_guarded | go_step | go_upon | (simp only []; go_at_K))
    go_ret
    exact ⟨rfl, rfl⟩

/-- What filled tells. -/
def Filled (s : Int) (b : List UInt8) (w : World) (e : Ending) (w' : World) : Prop :=
  ∃ g bo br R, e = .returned (.pointer (some ⟨g, 0, none⟩)) ∧ SideS w' g s bo br R (fillL s b (min b.length 60)) ∧ Upd [] (fpS g bo br R) w w'
set_option maxRecDepth 100000 in
set_option maxHeartbeats 2000000 in
theorem law20Filled (w : World) (s : Int) (hs : s = 1 ∨ s = 2) (A : Option Addr) (n c : Nat) (b : List UInt8) (hb : RdB w A n b) :
    Calls Try.prog 8 #[.int .i64 s, .slice A n c] w (Filled s b w) := by
  obtain rfl := hb.len
  go_enter Try.func8, Try.ntmps8
  repeat' ((fail_if_success (with_reducible refine stop_append rfl ?_)); (fail_if_success (with_reducible refine stop_copy rfl ?_)); first | go_values | go_skip | go_guarded | go_step | go_upon | (simp only []; go_at_K))
  ((with_reducible refine (sideNew _ s hs).mono ?_); rintro e w1 ⟨g, bo, br, rfl, h1, hu1⟩)
  repeat' ((fail_if_success (with_reducible refine stop_append rfl ?_)); (fail_if_success (with_reducible refine stop_copy rfl ?_)); first | go_values | go_skip | go_guarded | go_step | go_upon | (simp only []; go_at_K))
  go_loopw [6] (fun v6 wr => ∃ (i : Nat) (R : List Rw), i ≤ b.length ∧ i ≤ 60 ∧ v6 = .int .i64 (i : Int) ∧ SideS wr g s bo br R (fillL s b i) ∧ Upd [] (fpS g bo br R) w wr)
    (fun v6 _ => 60 - (intOf v6).toNat)
  case atStart => exact ⟨0, [], by omega, by omega, rfl, h1, hu1⟩
  case round =>
    clear h1 hu1
    obtain ⟨i, R, hi, hi6, rfl, h, U⟩ := hrel
    by_cases hlt : i < b.length
    · by_cases h60 : i < 60
      · have hil : (i : Int) < (b.length : Int) := by omega
        have hi60 : (i : Int) < 60 := by omega
        have hw1 : IntKind.i64.wrap ((i : Int) + 1) = (i : Int) + 1 := by rw [IntKind.wrap_i64]; omega
        have hw2 : IntKind.i64.wrap ((i : Int) + 2) = (i : Int) + 2 := by rw [IntKind.wrap_i64]; omega
        obtain ⟨ad, u, rfl, hu, hc⟩ := (hb.upd U (by simp)).at_ (k := i) hlt
        rw [b8s_get b i hlt, Option.some.injEq] at hu
        subst hu
        have hg : b.getD i 0 = b[i] := by simp [hlt]
        have hP := sidePut wr g bo br s R (fillL s b i) h (mkO s i (b.getD i 0)) (mkO_may s (by omega) _) (fillL_none s b i) (wf64 (by simp only [mkO]; omega) (by simp only [mkO]; omega)) (by rw [fillL_len]; omega)
        rw [hg] at hP
        have HG := Lib.hid hg
        clear hg hb
        generalize b[i] = y at *
        simp only [Ord.val, mkO] at hP
        repeat' ((fail_if_success (with_reducible refine stop_append rfl ?_)); (fail_if_success (with_reducible refine stop_copy rfl ?_)); first | go_values | go_skip | go_guarded | go_step | go_upon | (simp only []; go_at_K))
        ((with_reducible refine hP.mono ?_); rintro e w3 ⟨R', rfl, h3, hu3⟩)
        have U3 := U.trans hu3
        rw [show (⟨(i : Int) + 1, 1, s, (y.toNat : Int) % 16 + 1, (i : Int) + 2, false, 0⟩ : Ord) = mkO s i (b.getD i 0) by rw [HG.out]; rfl] at h3
        clear hP h U hu3 hc
        repeat' ((fail_if_success (with_reducible refine stop_append rfl ?_)); (fail_if_success (with_reducible refine stop_copy rfl ?_)); first | go_values | go_skip | go_guarded | go_step | go_upon | (simp only []; go_at_K))
        exact ⟨⟨i + 1, R', by omega, by omega, by simp, h3, U3⟩, by simp [intOf]; omega⟩
      · obtain rfl : i = 60 := by omega
        have hil : (60 : Int) < (b.length : Int) := by omega
        have hm : min b.length 60 = 60 := by omega
        rw [← hm] at h
        have HH := Lib.hid h
        clear h hb hm
        repeat' ((fail_if_success (with_reducible refine stop_append rfl ?_)); (fail_if_success (with_reducible refine stop_copy rfl ?_)); first | go_values | go_skip | go_guarded | go_step | go_upon | (simp only []; go_at_K))
        go_ret
        exact ⟨g, bo, br, R, rfl, HH.out, U⟩
    · obtain rfl : i = b.length := by omega
      have hil : ¬ ((b.length : Int) < (b.length : Int)) := by omega
      have hm : b.length = min b.length 60 := by omega
      rw [hm] at h
      have HH := Lib.hid h
      clear h hb hm
      repeat' ((fail_if_success (with_reducible refine stop_append rfl ?_)); (fail_if_success (with_reducible refine stop_copy rfl ?_)); first | go_values | go_skip | go_guarded | go_step | go_upon | (simp only []; go_at_K))
      go_ret
      exact ⟨g, bo, br, R, rfl, HH.out, U⟩
end Go.Proofs.Ytdmmpcdilkcfjaa
