/- slices.Delete at a queue's items; Drop. -/
import Derived.Test.YtdmmpcdilkcfjaaQueue4
namespace Go.Proofs.Ytdmmpcdilkcfjaa
open Go.RowKit Agio

theorem itC_take (l : Its) (k : Nat) : (l.flatMap itC).take (k * 2) = (l.take k).flatMap itC := by
  induction k generalizing l with
  | zero => simp
  | succ k ih =>
    cases l with
    | nil => simp
    | cons x l => simp only [List.flatMap_cons, List.take_succ_cons, ← ih]; rw [show (k + 1) * 2 = k * 2 + 2 by omega]; simp [itC]
theorem itC_drop (l : Its) (k : Nat) : (l.flatMap itC).drop (k * 2) = (l.drop k).flatMap itC := by
  induction k generalizing l with
  | zero => simp
  | succ k ih =>
    cases l with
    | nil => simp
    | cons x l => simp only [List.flatMap_cons, List.drop_succ_cons, ← ih]; rw [show (k + 1) * 2 = k * 2 + 2 by omega]; simp [itC]
theorem run_clear_one {P : Program} {w w' : World} {t e ty : TypeId} {z : Value} {a : Addr} {c : Nat} (ht : P.underlying t = some (.slice e)) (hz : (zeroValue e).run P w = .ok z w)
    (hs : (storeCells a (Builtin.zeroCells z.cells 1).toList 0).run P w = .ok () w') : (Builtin.clear_ #[t] ty #[.slice (some a) 1 c]).run P w = .ok (.tuple #[]) w' := by
  simp [Builtin.clear_, run_underlying ht, hz, hs]

set_option maxRecDepth 100000 in
set_option maxHeartbeats 2000000 in
theorem slicesDelete (w : World) (A : Option Addr) (k c : Nat) (l : Its) (h : Agio.Own 99 2 w A (k + 1) c (l.flatMap itC)) (hn : k + 1 = l.length) (i : Nat) (hi : i < l.length) (hl : l.length ≤ 256) :
    Calls Try.prog 67 #[.slice A (k + 1) c, .int .i64 (i : Int), .int .i64 ((i : Int) + 1)] w fun e w' => e = .returned (.slice A k c) ∧ Agio.Own 99 2 w' A k c ((l.eraseIdx i).flatMap itC) ∧ Upd (ablk A) (ablk A) w w' := by
  have hcap := h.cap
  obtain ⟨g, cur, hA, -, -, -, -⟩ := h.block (by omega)
  have hkc : ((k : Int) + 1) ≤ (c : Int) := by omega
  have hkc' : (k : Int) ≤ (c : Int) := by omega
  have hk1 : (k : Int) ≤ (k : Int) + 1 := by omega
  have hk0 : (0 : Int) ≤ (k : Int) + 1 := by omega
  have hic : (i : Int) ≤ (c : Int) := by omega
  have hin1 : (i : Int) ≤ (i : Int) + 1 := by omega
  have hi1 : (i : Int) + 1 ≤ (k : Int) + 1 := by omega
  have hi2 : (i : Int) + 1 ≤ (c : Int) := by omega
  have hi0 : (0 : Int) ≤ (i : Int) + 1 := by omega
  have hne : ((i : Int) == (i : Int) + 1) = false := by
    apply beq_false_of_ne
    omega
  have hck : ¬ c = k := by omega
  obtain ⟨ad, had⟩ : ∃ ad : Addr, ad = ⟨g, 0, none⟩ := ⟨_, rfl⟩
  rw [← had] at hA
  subst hA
  have HA := Lib.hid had
  obtain ⟨A2, hA2⟩ : ∃ A2, (if c = i + 1 then some ad else some (ad.add ((i + 1) * 2))) = A2 := ⟨_, rfl⟩
  obtain ⟨w1, hrun, hu1, hfin⟩ := (Agio.Own.del (P := Try.prog) (t := 95) Try.underlying95 infoItm (by decide) h.drew (i := i) (by omega) (itC_one l) 95 A2 (by rw [← hA2]; rfl) (c - (i + 1)) : _)
  obtain ⟨hst, ho, hu⟩ := hfin [.int .i64 0, .int .i64 0] rfl (by simp; rfl) ad rfl
  rw [itC_take, itC_drop, ← List.flatMap_append, ← List.eraseIdx_eq_take_drop_succ] at ho
  rw [Nat.add_sub_cancel] at hrun hst ho hu
  have hclr : ∀ d, (Builtin.clear_ #[95] 0 #[.slice (some (ad.add (k * 2))) 1 d]).run Try.prog w1 = .ok (.tuple #[]) (w1.setCells ad.block (k * 2) [.int .i64 0, .int .i64 0]) := fun d =>
    run_clear_one Try.underlying95 (Try.zeroValue99 _) (by rw [show (Builtin.zeroCells (Value.agg #[.int .i64 0, .int .i64 0]).cells 1).toList = [.int .i64 0, .int .i64 0] by kernel_rfl]; exact hst)
  generalize w1.setCells ad.block (k * 2) [.int .i64 0, .int .i64 0] = w2 at *
  clear had hst hfin h hcap cur
  have HN := Lib.hid hn
  have HI := Lib.hid hi
  have hsub : k + 1 - (i + 1) = k - i := by omega
  rw [hsub] at hrun
  clear hn hi hl hsub
  go_enter Try.func67, Try.ntmps67
  repeat' ((fail_if_success (with_reducible refine stop_append rfl ?_)); (fail_if_success (with_reducible refine stop_copy rfl ?_)); first | go_values | go_skip | go_guarded | go_step | go_upon | (simp only []; go_at_K))
  go_region_law (refine step_run rfl (.tmp 22) (.tmp 25) 95 rfl (.slice (some ad) i c) (.slice A2 (k - i) (c - (i + 1))) _ w1 rfl rfl hrun ?_)
  all_goals (repeat' ((fail_if_success (with_reducible refine stop_append rfl ?_)); (fail_if_success (with_reducible refine stop_copy rfl ?_)); first | go_values | go_skip | go_guarded | go_step | go_upon | (simp only []; go_at_K)))
  all_goals go_ret
  exact ⟨rfl, ho, ((Upd.refl (ablk (some ad)) w).drew).trans hu⟩
end Go.Proofs.Ytdmmpcdilkcfjaa
