/- agioref20: Prices, At. -/
import Derived.Test.YtdmmpcdilkcfjaaRef20c
namespace Go.Proofs.Ytdmmpcdilkcfjaa
open Go.RowKit Agio

theorem infoI64 : (Try.prog.info? 2).map (fun i => (i.zero, i.size, i.bytes)) = some (some (.int .i64 0), 1, 8) := by kernel_rfl
section
variable (w : World) (A : Option Addr) (n c : Nat) (L : List Ord) (h : RdS Ord.cells 7 w A n L)
include h
set_option maxRecDepth 100000 in
set_option maxHeartbeats 4000000 in
theorem refAt (hq : ∀ o ∈ L, 0 ≤ o.qty ∧ o.qty ≤ 1073741824) (hl : L.length ≤ 256) (p : Int) : Calls Try.prog 22 #[.slice A n c, .int .i64 p] w fun e w' => e = .returned (.int .i64 (sumAt p L)) ∧ w = w' := by
  obtain rfl := h.len
  have HQ := Lib.hid hq
  clear hq
  go_enter Try.func22, Try.ntmps22
  repeat' ((fail_if_success (with_reducible refine stop_append rfl ?_)); (fail_if_success (with_reducible refine stop_copy rfl ?_)); first | go_values | go_skip | go_guarded | go_step | go_upon | (simp only []; go_at_K))
  go_loopw [5, 6] (fun v5 v6 wr => ∃ i : Nat, i ≤ L.length ∧ v5 = .int .i64 (sumAt p (L.take i)) ∧ v6 = .int .i64 (i : Int) ∧ wr = w) (fun _ v6 _ => L.length - (intOf v6).toNat)
  case atStart => exact ⟨0, by omega, rfl, rfl, rfl⟩
  case round =>
    obtain ⟨i, hi, rfl, rfl, rfl⟩ := hrel
    by_cases hlt : i < L.length
    · have hil : (i : Int) < (L.length : Int) := by omega
      have hw1 : IntKind.i64.wrap ((i : Int) + 1) = (i : Int) + 1 := by rw [IntKind.wrap_i64]; omega
      have hst := sumAt_take (p := p) hlt
      have hbd := sumAt_bounds (p := p) (L := L.take (i + 1)) (fun o ho => HQ.out o (List.mem_of_mem_take ho)) (by rw [List.length_take]; omega)
      obtain ⟨ad, rfl, -, -, -, a3, a4, -⟩ := ord_at h hlt
      by_cases he : L[i].price = p
      · have he1 : (L[i].price == p) = true := by rw [he]; exact beq_self_eq_true _
        rw [if_pos he] at hst
        have hw2 : wrap64 (sumAt p (L.take i) + L[i].qty) = sumAt p (L.take (i + 1)) := by rw [hst] at hbd ⊢; unfold wrap64; omega
        have HW := Lib.hid hw2
        clear hst hbd hw2 h he
        generalize L[i].price = x at *
        generalize L[i].qty = y at *
        clear hlt
        generalize sumAt p (L.take i) = z at *
        repeat' ((fail_if_success (with_reducible refine stop_append rfl ?_)); (fail_if_success (with_reducible refine stop_copy rfl ?_)); first | go_values | go_skip | go_guarded | go_step | go_upon | (simp only []; go_at_K))
        exact ⟨⟨i + 1, by omega, by rw [HW.out], by simp, trivial⟩, by simp [intOf]; omega⟩
      · have he1 : (L[i].price == p) = false := beq_false_of_ne he
        rw [if_neg he, Int.add_zero] at hst
        have HW := Lib.hid hst
        clear hst hbd h he
        generalize L[i].price = x at *
        generalize L[i].qty = y at *
        clear hlt
        repeat' ((fail_if_success (with_reducible refine stop_append rfl ?_)); (fail_if_success (with_reducible refine stop_copy rfl ?_)); first | go_values | go_skip | go_guarded | go_step | go_upon | (simp only []; go_at_K))
        exact ⟨⟨i + 1, by omega, by rw [HW.out], by simp, trivial⟩, by simp [intOf]; omega⟩
    · obtain rfl : i = L.length := by omega
      have hil : ¬ ((L.length : Int) < (L.length : Int)) := by omega
      have hx : L.take L.length = L := List.take_length
      rw [hx]
      clear h hx
      repeat' ((fail_if_success (with_reducible refine stop_append rfl ?_)); (fail_if_success (with_reducible refine stop_copy rfl ?_)); first | go_values | go_skip | go_guarded | go_step | go_upon | (simp only []; go_at_K))
      go_ret
      exact ⟨rfl, rfl⟩

/-- What Prices tells. -/
def RefP (w : World) (L : List Ord) (e : Ending) (w' : World) : Prop :=
  ∃ A' c', e = .returned (.slice A' (pricesO L).length c') ∧ Agio.Own 2 1 w' A' (pricesO L).length c' ((pricesO L).map (Value.int .i64)) ∧ Upd [] (ablk A') w w'
set_option maxRecDepth 100000 in
set_option maxHeartbeats 4000000 in
theorem refPrices (hl : L.length ≤ 1000) : Calls Try.prog 26 #[.slice A n c] w (RefP w L) := by
  obtain rfl := h.len
  go_enter Try.func26, Try.ntmps26
  repeat' ((fail_if_success (with_reducible refine stop_append rfl ?_)); (fail_if_success (with_reducible refine stop_copy rfl ?_)); first | go_values | go_skip | go_guarded | go_step | go_upon | (simp only []; go_at_K))
  go_loopw [3, 4] (fun v3 v4 wr => ∃ (i : Nat) (A' : Option Addr) (k c' : Nat), i ≤ L.length ∧ v4 = .int .i64 (i : Int) ∧ v3 = .slice A' k c' ∧ k = (pricesO (L.take i)).length ∧
      Agio.Own 2 1 wr A' k c' ((pricesO (L.take i)).map (Value.int .i64)) ∧ Upd [] (ablk A') w wr) (fun _ v4 _ => L.length - (intOf v4).toNat)
  case atStart => exact ⟨0, none, 0, 0, by omega, rfl, rfl, rfl, Agio.Own.nil _ _ _, (Upd.refl [] w).gives (by simp [ablk])⟩
  case round =>
    obtain ⟨i, A', k, c', hi, rfl, rfl, hk, ho, U⟩ := hrel
    have hr := h.upd0 U
    by_cases hlt : i < L.length
    · have hil : (i : Int) < (L.length : Int) := by omega
      have hw1 : IntKind.i64.wrap ((i : Int) + 1) = (i : Int) + 1 := by rw [IntKind.wrap_i64]; omega
      obtain ⟨ad, hA, -, -, -, a3, -⟩ := ord_at hr hlt
      subst hA
      have hkl := pricesO_len (L.take i)
      rw [List.length_take, ← hk] at hkl
      have PUSH : ∀ (pr : List Int) (A2 : Option Addr) (c2 : Nat) (w2 : World), pricesO (L.take (i + 1)) = pricesO (L.take i) ++ pr → (k + pr.length) = (pricesO (L.take (i + 1))).length := fun pr A2 c2 w2 e => by rw [e, List.length_append, hk]
      rcases Nat.eq_zero_or_pos i with h0 | h0
      · have hz : ((i : Int) == 0) = true := by subst h0; rfl
        have hx : pricesO (L.take (i + 1)) = pricesO (L.take i) ++ [L[i].price] := by subst h0; exact pricesO_take0 hlt
        have a3' := fun N => ((Upd.refl [] wr).drewN N).cell a3 (by simp)
        have HX := Lib.hid hx
        have HK := Lib.hid hk
        clear hx h hr h0 PUSH hk
        generalize L[i].price = y at *
        clear hlt
        repeat' ((fail_if_success (with_reducible refine stop_append rfl ?_)); (fail_if_success (with_reducible refine stop_copy rfl ?_)); first | go_values | go_skip | go_guarded | go_step | go_upon | (simp only []; go_at_K))
        go_quiet (fail)
        have ho' := ho.drewN nq
        have U' := U.drewN nq
        have b3 := a3' nq
        clear a3' ho U a3
        generalize wr.drewN nq = W1 at *
        repeat' ((fail_if_success (with_reducible refine stop_append rfl ?_)); (fail_if_success (with_reducible refine stop_copy rfl ?_)); first | go_values | go_skip | go_guarded | go_step | go_upon | (simp only []; go_at_K))
        refine wpList_push rfl _ _ 57 rfl 2 Try.underlying57 infoI64 rfl (by decide) ho' rfl _ rfl (news := [.int .i64 y]) rfl rfl rfl (by unfold maxLen; omega) (by omega) ?_
        intro A9 c9 w9 ho9 hu9
        have U9 := U'.trans hu9
        rw [show (pricesO (L.take i)).map (Value.int .i64) ++ [Value.int .i64 y] = (pricesO (L.take (i + 1))).map (Value.int .i64) by rw [HX.out]; simp] at ho9
        have hk9 : k + 1 = (pricesO (L.take (i + 1))).length := by rw [HX.out, List.length_append, ← HK.out]; rfl
        have HK9 := Lib.hid hk9
        clear hk9 ho' U' hu9 b3
        repeat' ((fail_if_success (with_reducible refine stop_append rfl ?_)); (fail_if_success (with_reducible refine stop_copy rfl ?_)); first | go_values | go_skip | go_guarded | go_step | go_upon | (simp only []; go_at_K))
        exact ⟨⟨i + 1, A9, k + 1, c9, by omega, by simp, rfl, HK9.out, ho9, U9⟩, by simp [intOf]; omega⟩
      · have hz : ((i : Int) == 0) = false := beq_false_of_ne (by omega)
        have hal : i - 1 < L.length := by omega
        have hx : pricesO (L.take (i + 1)) = if L[i - 1].price = L[i].price then pricesO (L.take i) else pricesO (L.take i) ++ [L[i].price] := by
          have hx := pricesO_take (L := L) (i := i - 1) (by omega)
          have e1 : i - 1 + 1 = i := by omega
          have e2 : i - 1 + 2 = i + 1 := by omega
          simpa only [e1, e2] using hx
        have hi1 : IntKind.i64.wrap ((i : Int) - 1) = ((i - 1 : Nat) : Int) := by rw [IntKind.wrap_i64]; omega
        have hil1 : ((i - 1 : Nat) : Int) < (L.length : Int) := by omega
        obtain ⟨ad', hA, -, -, -, q3, -⟩ := ord_at hr hal
        injection hA with hA
        subst hA
        have a3' := fun N => ((Upd.refl [] wr).drewN N).cell a3 (by simp)
        have q3' := fun N => ((Upd.refl [] wr).drewN N).cell q3 (by simp)
        have HK := Lib.hid hk
        by_cases hp : L[i - 1].price = L[i].price
        · have hne : (L[i].price != L[i - 1].price) = false := by rw [hp]; exact bne_self_eq_false _
          rw [if_pos hp] at hx
          have HX := Lib.hid hx
          clear hx h hr h0 PUSH hk hp a3 q3
          generalize L[i].price = y at *
          generalize L[i - 1].price = z at *
          clear hlt hal
          repeat' ((fail_if_success (with_reducible refine stop_append rfl ?_)); (fail_if_success (with_reducible refine stop_copy rfl ?_)); first | go_values | go_skip | go_guarded | go_step | go_upon | (simp only []; go_at_K))
          go_quiet (fail)
          have ho' := ho.drewN nq
          have U' := U.drewN nq
          clear a3' q3' ho U
          generalize wr.drewN nq = W1 at *
          repeat' ((fail_if_success (with_reducible refine stop_append rfl ?_)); (fail_if_success (with_reducible refine stop_copy rfl ?_)); first | go_values | go_skip | go_guarded | go_step | go_upon | (simp only []; go_at_K))
          exact ⟨⟨i + 1, A', k, c', by omega, by simp, rfl, by rw [HX.out]; exact HK.out, by rw [HX.out]; exact ho', U'⟩, by simp [intOf]; omega⟩
        · have hne : (L[i].price != L[i - 1].price) = true := by
            unfold bne
            rw [beq_false_of_ne (fun e => hp e.symm)]
            rfl
          rw [if_neg hp] at hx
          have HX := Lib.hid hx
          clear hx h hr h0 PUSH hk hp
          generalize L[i].price = y at *
          generalize L[i - 1].price = z at *
          clear hlt hal
          repeat' ((fail_if_success (with_reducible refine stop_append rfl ?_)); (fail_if_success (with_reducible refine stop_copy rfl ?_)); first | go_values | go_skip | go_guarded | go_step | go_upon | (simp only []; go_at_K))
          go_quiet (fail)
          have ho' := ho.drewN nq
          have U' := U.drewN nq
          have b3 := a3' nq
          clear a3' q3' ho U a3 q3
          generalize wr.drewN nq = W1 at *
          repeat' ((fail_if_success (with_reducible refine stop_append rfl ?_)); (fail_if_success (with_reducible refine stop_copy rfl ?_)); first | go_values | go_skip | go_guarded | go_step | go_upon | (simp only []; go_at_K))
          refine wpList_push rfl _ _ 57 rfl 2 Try.underlying57 infoI64 rfl (by decide) ho' rfl _ rfl (news := [.int .i64 y]) rfl rfl rfl (by unfold maxLen; omega) (by omega) ?_
          intro A9 c9 w9 ho9 hu9
          have U9 := U'.trans hu9
          rw [show (pricesO (L.take i)).map (Value.int .i64) ++ [Value.int .i64 y] = (pricesO (L.take (i + 1))).map (Value.int .i64) by rw [HX.out]; simp] at ho9
          have hk9 : k + 1 = (pricesO (L.take (i + 1))).length := by rw [HX.out, List.length_append, ← HK.out]; rfl
          have HK9 := Lib.hid hk9
          clear hk9 ho' U' hu9 b3
          repeat' ((fail_if_success (with_reducible refine stop_append rfl ?_)); (fail_if_success (with_reducible refine stop_copy rfl ?_)); first | go_values | go_skip | go_guarded | go_step | go_upon | (simp only []; go_at_K))
          exact ⟨⟨i + 1, A9, k + 1, c9, by omega, by simp, rfl, HK9.out, ho9, U9⟩, by simp [intOf]; omega⟩
    · obtain rfl : i = L.length := by omega
      have hil : ¬ ((L.length : Int) < (L.length : Int)) := by omega
      rw [List.take_length] at hk ho
      subst hk
      clear h hr
      repeat' ((fail_if_success (with_reducible refine stop_append rfl ?_)); (fail_if_success (with_reducible refine stop_copy rfl ?_)); first | go_values | go_skip | go_guarded | go_step | go_upon | (simp only []; go_at_K))
      go_ret
      exact ⟨A', c', rfl, ho, U⟩
end
end Go.Proofs.Ytdmmpcdilkcfjaa
