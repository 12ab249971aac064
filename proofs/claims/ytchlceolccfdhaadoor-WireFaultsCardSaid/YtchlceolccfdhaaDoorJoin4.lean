/- errors.Join of two errors. -/
import Derived.Test.YtchlceolccfdhaaDoorJoin3
namespace Go.Proofs.YtchlceolccfdhaaDoor
open Go.RowKit Agio

set_option maxRecDepth 100000 in
set_option maxHeartbeats 4000000 in
theorem errorsJoin (v : Value) (e : Er) (ad : Addr) (n : Nat) (w : World) (c0 : w.cell? ad = some (.iface 125 v)) (c1 : w.cell? (ad.add 1) = some e.val) :
    Calls Tryd.prog 32 #[.slice (some ad) 2 n] w fun ev w' => ∃ j, ev = .returned (.iface 122 (.pointer (some ⟨j, 0, none⟩))) ∧ Joined w' j v e ∧ Upd [] [] w w' := by
  obtain ⟨t, z, hx⟩ := e.iface
  rw [hx] at c1
  have c2 := c1
  unfold Addr.add at c2
  rw [if_neg (by decide)] at c2
  have HX := Lib.hid hx; clear hx
  have hmk : ∀ w : World, (Instr.makeSlice 121 (.int .i64 0) (.int .i64 2)).run Tryd.prog w = .ok (.slice (some ⟨w.heap.size, 0, none⟩) 0 2) (w.alloc (.cells #[.nilIface, .nilIface] 36)) := fun w => by kernel_rfl
  have hM : Own 36 1 (w.alloc (.cells #[.nilIface, .nilIface] 36)) (some ⟨w.heap.size, 0, none⟩) 0 2 [] := World.ownsRow_made w #[.nilIface, .nilIface] 2 (Nat.zero_le _) (by simp [maxLen]) (by simp)
  go_enter Tryd.func32, Tryd.ntmps32
  repeat' ((fail_if_success (with_reducible refine stop_append rfl ?_)); (fail_if_success (with_reducible refine stop_copy rfl ?_)); first | go_values | go_skip | go_guarded | go_step | go_upon | (simp only []; go_at_K))
  go_loop [3, 11] (fun v3 v11 => ∃ i : Nat, i ≤ 2 ∧ v3 = .int .i64 (i : Int) ∧ v11 = .int .i64 (i : Int)) (fun _ v11 => 2 - (intOf v11).toNat)
  case atStart => exact ⟨0, by omega, rfl, rfl⟩
  case round =>
    obtain ⟨i, hi, rfl, rfl⟩ := hrel
    have hi2 : i = 0 ∨ i = 1 ∨ i = 2 := by omega
    rcases hi2 with rfl | rfl | rfl
    · repeat' ((fail_if_success (with_reducible refine stop_append rfl ?_)); (fail_if_success (with_reducible refine stop_copy rfl ?_)); first | go_values | go_skip | go_guarded | go_step | go_upon | (simp only []; go_at_K))
      exact ⟨⟨1, by omega, rfl, rfl⟩, by simp [intOf]⟩
    · repeat' ((fail_if_success (with_reducible refine stop_append rfl ?_)); (fail_if_success (with_reducible refine stop_copy rfl ?_)); first | go_values | go_skip | go_guarded | go_step | go_upon | (simp only []; go_at_K))
      exact ⟨⟨2, by omega, rfl, rfl⟩, by simp [intOf]⟩
    · rw [show ((2 : Nat) : Int) = 2 from rfl]
      repeat' ((fail_if_success (with_reducible refine stop_append rfl ?_)); (fail_if_success (with_reducible refine stop_copy rfl ?_)); first | go_values | go_skip | go_guarded | go_step | go_upon | (simp only []; go_at_K))
      have hb := Blk.new (w.alloc (.cells #[.nilIface, .nilIface] 36)) 124 #[.slice (some ⟨w.heap.size, 0, none⟩) 0 2]
      rw [World.size_alloc] at hb
      have hM2 := hM.alloc (.cells #[.slice (some ⟨w.heap.size, 0, none⟩) 0 2] 124)
      have hU : Upd [] ((w.heap.size + 1) :: ablk (some ⟨w.heap.size, 0, none⟩)) w ((w.alloc (.cells #[.nilIface, .nilIface] 36)).alloc (.cells #[.slice (some ⟨w.heap.size, 0, none⟩) 0 2] 124)) := (((Upd.refl [] w).alloc _).alloc _).gives (by simp [ablk])
      clear hmk hM
      go_loopw [28] (fun v28 wr => ∃ (i : Nat) (A : Option Addr) (c : Nat), i ≤ 2 ∧ v28 = .int .i64 (i : Int) ∧ Blk wr (w.heap.size + 1) 124 #[.slice A i c] ∧ Own 36 1 wr A i c ([Value.iface 125 v, Value.iface t z].take i) ∧ Upd [] ((w.heap.size + 1) :: ablk A) w wr)
        (fun v28 _ => 2 - (intOf v28).toNat)
      case atStart => exact ⟨0, _, 2, by omega, rfl, hb, hM2, hU⟩
      case round =>
        clear hb hM2 hU
        obtain ⟨i, A, c, hi, rfl, hb, hO, hu⟩ := hrel
        have d0 := hu.cell c0 (by simp)
        have d2 := hu.cell c2 (by simp)
        have hi2 : i = 0 ∨ i = 1 ∨ i = 2 := by omega
        have hbc := hb.cell 0
        have hbf := hb.frozen 0
        simp at hbc
        have hne : w.heap.size + 1 ∉ ablk A := hO.ne hb (by decide)
        rcases hi2 with rfl | rfl | rfl
        · repeat' ((fail_if_success (with_reducible refine stop_append rfl ?_)); (fail_if_success (with_reducible refine stop_copy rfl ?_)); first | go_values | go_skip | go_guarded | go_step | go_upon | (simp only []; go_at_K))
          refine wpList_push rfl _ _ 121 rfl 36 Tryd.underlying121 infoErr rfl (by decide) hO rfl _ rfl (m := 1) (news := [.iface 125 v]) rfl rfl rfl (by unfold maxLen; omega) (by omega) ?_
          intro A1 c1' w1 hO1 hu1
          have hb1 := hb.upd hu1 hne
          have hne1 : w.heap.size + 1 ∉ ablk A1 := hO1.ne hb1 (by decide)
          have hbc1 := hb1.cell 0
          have hbf1 := hb1.frozen 0
          simp at hbc1
          have hS : Upd [w.heap.size + 1] [w.heap.size + 1] w1 (w1.setCell ⟨w.heap.size + 1, 0, none⟩ (.slice A1 (0 + 1) c1')) := (Upd.refl _ _).setCell (.inl (by simp)) _
          have hb2 : Blk (w1.setCell ⟨w.heap.size + 1, 0, none⟩ (.slice A1 (0 + 1) c1')) (w.heap.size + 1) 124 #[.slice A1 (0 + 1) c1'] := by simpa using hb1.set_ 0 (.slice A1 (0 + 1) c1')
          have hO2 := hO1.upd hS (fun k hk => by simp; rintro rfl; exact hne1 hk)
          have hu2 : Upd [] ((w.heap.size + 1) :: ablk A1) w (w1.setCell ⟨w.heap.size + 1, 0, none⟩ (.slice A1 (0 + 1) c1')) := by
            have h1 := (hu.trans (hu1.mono (a' := (w.heap.size + 1) :: ablk A) (b' := (w.heap.size + 1) :: ablk A1) (fun k hk => by simp [hk]) (fun k hk => by
              rcases List.mem_cons.1 hk with rfl | hk
              · exact .inr (.inl (by simp))
              · exact .inl hk)))
            exact h1.setCell (.inr (by simp)) _
          clear hbc hbf hb hO hu hu1
          repeat' ((fail_if_success (with_reducible refine stop_append rfl ?_)); (fail_if_success (with_reducible refine stop_copy rfl ?_)); first | go_values | go_skip | go_guarded | go_step | go_upon | (simp only []; go_at_K))
          exact ⟨⟨1, A1, c1', by omega, rfl, hb2, hO2, hu2⟩, by simp [intOf]⟩
        · repeat' ((fail_if_success (with_reducible refine stop_append rfl ?_)); (fail_if_success (with_reducible refine stop_copy rfl ?_)); first | go_values | go_skip | go_guarded | go_step | go_upon | (simp only []; go_at_K))
          refine wpList_push rfl _ _ 121 rfl 36 Tryd.underlying121 infoErr rfl (by decide) hO rfl _ rfl (m := 1) (news := [.iface t z]) rfl rfl rfl (by unfold maxLen; omega) (by omega) ?_
          intro A1 c1' w1 hO1 hu1
          have hb1 := hb.upd hu1 hne
          have hne1 : w.heap.size + 1 ∉ ablk A1 := hO1.ne hb1 (by decide)
          have hbc1 := hb1.cell 0
          have hbf1 := hb1.frozen 0
          simp at hbc1
          have hS : Upd [w.heap.size + 1] [w.heap.size + 1] w1 (w1.setCell ⟨w.heap.size + 1, 0, none⟩ (.slice A1 (1 + 1) c1')) := (Upd.refl _ _).setCell (.inl (by simp)) _
          have hb2 : Blk (w1.setCell ⟨w.heap.size + 1, 0, none⟩ (.slice A1 (1 + 1) c1')) (w.heap.size + 1) 124 #[.slice A1 (1 + 1) c1'] := by simpa using hb1.set_ 0 (.slice A1 (1 + 1) c1')
          have hO2 := hO1.upd hS (fun k hk => by simp; rintro rfl; exact hne1 hk)
          have hu2 : Upd [] ((w.heap.size + 1) :: ablk A1) w (w1.setCell ⟨w.heap.size + 1, 0, none⟩ (.slice A1 (1 + 1) c1')) := by
            have h1 := (hu.trans (hu1.mono (a' := (w.heap.size + 1) :: ablk A) (b' := (w.heap.size + 1) :: ablk A1) (fun k hk => by simp [hk]) (fun k hk => by
              rcases List.mem_cons.1 hk with rfl | hk
              · exact .inr (.inl (by simp))
              · exact .inl hk)))
            exact h1.setCell (.inr (by simp)) _
          clear hbc hbf hb hO hu hu1
          repeat' ((fail_if_success (with_reducible refine stop_append rfl ?_)); (fail_if_success (with_reducible refine stop_copy rfl ?_)); first | go_values | go_skip | go_guarded | go_step | go_upon | (simp only []; go_at_K))
          exact ⟨⟨2, A1, c1', by omega, rfl, hb2, hO2, hu2⟩, by simp [intOf]⟩
        · have hrd := Rd.of_own hO
          obtain ⟨ad', e', hcell⟩ := hrd.2 (by omega)
          subst e'
          have g0 := hcell 0 _ rfl
          have g1 := hcell 1 _ rfl
          have HJ : Hid (Joined wr (w.heap.size + 1) v e) := ⟨c, ad', hb, by simpa [Addr.add] using g0, by rw [HX.out]; exact g1⟩
          clear hcell g0 g1 hrd hbc hbf hb hO
          repeat' ((fail_if_success (with_reducible refine stop_append rfl ?_)); (fail_if_success (with_reducible refine stop_copy rfl ?_)); first | go_values | go_skip | go_guarded | go_step | go_upon | (simp only []; go_at_K))
          go_ret
          exact ⟨_, rfl, HJ.out, hu.gives (by simp)⟩
end Go.Proofs.YtchlceolccfdhaaDoor
