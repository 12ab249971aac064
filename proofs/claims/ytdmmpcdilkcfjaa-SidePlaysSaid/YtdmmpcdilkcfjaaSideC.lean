/- A side: List. -/
import Derived.Test.YtdmmpcdilkcfjaaSideB
import Derived.Test.YtdmmpcdilkcfjaaSide8
import Derived.Test.YtdmmpcdilkcfjaaOwnRow
namespace Go.Proofs.Ytdmmpcdilkcfjaa
open Go.RowKit Agio Go.Maps

theorem infoOrd : (Try.prog.info? 32).map (fun i => (i.zero, i.size, i.bytes)) = some (some (.agg #[.int .i64 0, .int .i64 0, .int .i64 0, .int .i64 0, .int .i64 0, .bool false, .int .i64 0]), 7, 56) := by kernel_rfl
theorem ord_one (o : Ord) : ∀ u ∈ o.cells, u.oneCell' = true := by
  intro u hu
  simp only [Ord.cells, List.mem_cons, List.not_mem_nil, or_false] at hu
  rcases hu with rfl | rfl | rfl | rfl | rfl | rfl | rfl <;> rfl
/-- What List tells. -/
def List20 (L : List Ord) (w : World) (e : Ending) (w' : World) : Prop :=
  ∃ A c, e = .returned (.slice A L.length c) ∧ Agio.Own 32 7 w' A L.length c (L.flatMap Ord.cells) ∧ Upd [] (ablk A) w w'
theorem flat_at {ps : List Int} {i : Nat} (hi : i < ps.length) (L : List Ord) : (ps.take (i + 1)).flatMap (fun p => atP p L) = (ps.take i).flatMap (fun p => atP p L) ++ atP ps[i] L := by
  rw [List.take_succ_eq_append_getElem hi, List.flatMap_append]; simp
theorem flat_le {ps : List Int} {s : Int} {L : List Ord} (h : PricesOf s ps L) (hL : Rising s L) (i : Nat) : ((ps.take i).flatMap (fun p => atP p L)).length ≤ L.length := by
  conv => rhs; rw [h.flat hL, ← List.take_append_drop i ps, List.flatMap_append, List.length_append]
  omega

set_option maxRecDepth 100000 in
set_option maxHeartbeats 4000000 in
theorem sideList (w : World) (g bo br : Nat) (s : Int) (R : List Rw) (L : List Ord) (h : SideS w g s bo br R L) :
    Calls Try.prog 11 #[.pointer (some ⟨g, 0, none⟩)] w (List20 L w) := by
  have C := sidePrices w g bo br s R L h
  have hle := h.sd.len
  go_enter Try.func11, Try.ntmps11
  repeat' ((fail_if_success (with_reducible refine stop_append rfl ?_)); (fail_if_success (with_reducible refine stop_copy rfl ?_)); first | go_values | go_skip | go_guarded | go_step | go_upon | (simp only []; go_at_K))
  ((with_reducible refine C.mono ?_); rintro e w1 ⟨A1, c1, ps, rfl, ho1, hps, hpl, hu1⟩)
  clear C
  repeat' ((fail_if_success (with_reducible refine stop_append rfl ?_)); (fail_if_success (with_reducible refine stop_copy rfl ?_)); first | go_values | go_skip | go_guarded | go_step | go_upon | (simp only []; go_at_K))
  go_loopw [3, 11] (fun v3 v11 wr => ∃ (i : Nat) (A : Option Addr) (k c : Nat), i ≤ ps.length ∧ v11 = .int .i64 (i : Int) ∧ v3 = .slice A k c ∧ k = ((ps.take i).flatMap (fun p => atP p L)).length ∧
      Agio.Own 32 7 wr A k c (((ps.take i).flatMap (fun p => atP p L)).flatMap Ord.cells) ∧ Agio.Own 2 1 wr A1 ps.length c1 (ps.map (Value.int .i64)) ∧ Upd [] (ablk A) w wr)
    (fun _ v11 _ => ps.length - (intOf v11).toNat)
  case atStart => exact ⟨0, none, 0, 0, by omega, rfl, rfl, by simp, by simpa using Agio.Own.nil _ _ _, ho1, hu1.gives (by simp [ablk])⟩
  case round =>
    obtain ⟨i, A, k, c, hi, rfl, rfl, hk, ho, ho1', U⟩ := hrel
    by_cases hlt : i < ps.length
    · have hil : (i : Int) < (ps.length : Int) := by omega
      have hh := h.upd0 U
      obtain ⟨ad, u, rfl, hu, hc⟩ := ho1'.rd.at_ hlt
      rw [List.getElem?_map, List.getElem?_eq_getElem hlt, Option.map_some, Option.some.injEq] at hu
      subst hu
      have hmem : ps[i] ∈ ps := List.getElem_mem hlt
      have hft := flat_at hlt L
      have hfl := flat_le hps h.sd.rising (i + 1)
      obtain ⟨p, hp⟩ : ∃ p, ps[i] = p := ⟨_, rfl⟩
      rw [hp] at hc hmem hft
      rw [hft, List.length_append] at hfl
      obtain ⟨x, hx, hxp⟩ := (hps.all p).1 hmem
      obtain ⟨r, hrR, hrp, hrr⟩ := hh.rowOf hx
      have hmay := h.sd.may x hx
      simp only [mayO, decide_eq_true_eq] at hmay
      rw [hxp] at hrp hrr hmay
      obtain ⟨-, -, m1, m2, -, -⟩ := hmay
      have hl := hh.rows.look (p := p) (wf64 (by omega) (by omega)) 0
      rw [hrr] at hl
      simp only [Option.map_some, Option.getD_some, Rw.val] at hl
      have hl' : (Instr.lookup 92 (.map (some br)) (.int .i64 p) false).run Try.prog wr = .ok (.pointer (some ⟨r.g, 0, none⟩)) wr := hl
      have hq := (hh.each r hrR).1
      rw [hrp] at hq
      have D := queueList wr _ _ hq.val
      obtain ⟨⟨q0, q1, q2⟩, -⟩ := hh.blk.c3
      have HF := Lib.hid hft
      have HK := Lib.hid hk
      have HP := Lib.hid hp
      clear hl hq hft hk hp hx hxp hrp hrr hrR hmem
      repeat' ((fail_if_success (with_reducible refine stop_append rfl ?_)); (fail_if_success (with_reducible refine stop_copy rfl ?_)); first | go_values | go_skip | go_guarded | go_step | go_upon | (simp only []; go_at_K))
      ((with_reducible refine D.mono ?_); rintro e w3 ⟨A3, k3, c3, rfl, ho3, hk3, hu3⟩)
      clear D hl' q0 q1 q2 hc
      have hk3' : k3 = (atP p L).length := by rw [hk3]; simp
      have ho30 := ho.upd hu3 (by simp)
      have ho31 := ho1'.upd hu3 (by simp)
      have U3 : Upd [] (ablk A) w w3 := U.trans (hu3.up _ |>.gives (fun k hk => .inl hk))
      have HK3 := Lib.hid hk3'
      clear hk3 hk3' ho ho1' U hu3
      repeat' ((fail_if_success (with_reducible refine stop_append rfl ?_)); (fail_if_success (with_reducible refine stop_copy rfl ?_)); first | go_values | go_skip | go_guarded | go_step | go_upon | (simp only []; go_at_K))
      go_loopw [3, 23] (fun v3 v23 wr => ∃ (j : Nat) (A : Option Addr) (k c : Nat), j ≤ k3 ∧ v23 = .int .i64 (j : Int) ∧ v3 = .slice A k c ∧ k = ((ps.take i).flatMap (fun p => atP p L) ++ (atP p L).take j).length ∧
          Agio.Own 32 7 wr A k c (((ps.take i).flatMap (fun p => atP p L) ++ (atP p L).take j).flatMap Ord.cells) ∧ Agio.Own 2 1 wr (some ad) ps.length c1 (ps.map (Value.int .i64)) ∧
          Agio.Own 99 2 wr A3 k3 c3 (((atP p L).map itO).flatMap itC) ∧ Upd [] (ablk A) w wr)
        (fun _ v23 _ => k3 - (intOf v23).toNat)
      case atStart => exact ⟨0, A, k, c, by omega, rfl, rfl, by simp [HK.out], by simpa using ho30, ho31, ho3, U3⟩
      case round =>
        clear ho30 ho31 ho3 U3 hh hu1 ho1
        obtain ⟨j, A, k, c, hj, rfl, rfl, hk, ho, ho1', ho3, U⟩ := hrel
        by_cases hlt2 : j < k3
        · have hjl : (j : Int) < (k3 : Int) := by omega
          have hk31 := HK3.out
          have hja : j < (atP p L).length := by omega
          have hh := h.upd0 U
          have hrd : RdS itC 2 wr A3 k3 ((atP p L).map itO) := ⟨by simp [hk31], ho3.rd⟩
          obtain ⟨ad3, rfl, p0', p1'⟩ := RdS.at_ itC_len hrd (i := j) (by simpa using hja)
          rw [List.getElem_map] at p0' p1'
          have hom : (atP p L)[j] ∈ L := (List.mem_filter.1 (List.getElem_mem hja)).1
          have htk : (atP p L).take (j + 1) = (atP p L).take j ++ [(atP p L)[j]] := List.take_succ_eq_append_getElem hja
          obtain ⟨o, hoe⟩ : ∃ o, (atP p L)[j] = o := ⟨_, rfl⟩
          rw [hoe] at p0' p1' hom htk
          have p0 := p0' _ rfl
          have p1 := p1' 1 _ (by omega) rfl
          simp only [itO] at p0 p1
          have hmo := h.sd.may o hom
          have hfo : findO o.id L = some o := findO_mem h.sd.ids hom
          have hB7 := Blk.new wr 99 #[.int .i64 o.id, .int .i64 o.qty]
          have UA : Upd [] [] wr (wr.alloc (.cells #[.int .i64 o.id, .int .i64 o.qty] 99)) := (Upd.refl _ _).alloc _
          have hh7 := hh.upd0 UA
          have ho7 := ho.upd UA (by simp)
          have ho17 := ho1'.upd UA (by simp)
          have ho37 := ho3.upd UA (by simp)
          have U7 : Upd [] (ablk A) w (wr.alloc (.cells #[.int .i64 o.id, .int .i64 o.qty] 99)) := U.alloc _
          obtain ⟨b7, hb7⟩ : ∃ b7, wr.heap.size = b7 := ⟨_, rfl⟩
          obtain ⟨W, hW⟩ : ∃ W, wr.alloc (.cells #[.int .i64 o.id, .int .i64 o.qty] 99) = W := ⟨_, rfl⟩
          rw [hW, hb7] at hB7
          rw [hW] at hh7 ho7 ho17 ho37 U7
          have hwf : (Lit.int .i64 o.id).wf = true := h.wf o hom
          have hl := hh7.ords.look1 hwf 1
          rw [getO_val, getO, hfo] at hl
          simp only [Option.getD_some, Ord.val] at hl
          have hl' : (Instr.lookup 91 (.map (some bo)) (.int .i64 o.id) false).run Try.prog W.drew = .ok (.agg #[.int .i64 o.id, .int .i64 o.client, .int .i64 o.side, .int .i64 o.price, .int .i64 o.qty, .bool o.peg, .int .i64 o.off]) W.drew := hl
          have hkl : k + 1 ≤ 300 := by rw [hk, List.length_append, List.length_take]; omega
          obtain ⟨A9, c9, w9, hrun, ho9, hu9⟩ := run_app (P := Try.prog) (W.drew.alloc (.cells o.cells.toArray 32)) 28 28 32 Try.underlying28 infoOrd rfl (by decide) A k c _ (ho7.drew.alloc _) (some ⟨W.heap.size, 0, none⟩) 1 1 o.cells (Rd.blk (Blk.new _ _ _) rfl) (ord_one o) (by unfold maxLen; omega) (by omega)
          have V9 : Upd (ablk A) (ablk A9) W w9 := ((Upd.refl (ablk A) W).drew.alloc _).trans hu9
          have ho19 := ho17.upd V9 (ho17.disj ho7 (by decide))
          have ho39 := ho37.upd V9 (ho37.disj ho7 (by decide))
          have U9 : Upd [] (ablk A9) w w9 := U7.trans V9
          have hfin : (((ps.take i).flatMap (fun p => atP p L) ++ (atP p L).take j).flatMap Ord.cells ++ o.cells) = ((ps.take i).flatMap (fun p => atP p L) ++ (atP p L).take (j + 1)).flatMap Ord.cells := by
            rw [htk]; simp [List.flatMap_append]
          rw [hfin] at ho9
          have hk9 : k + 1 = ((ps.take i).flatMap (fun p => atP p L) ++ (atP p L).take (j + 1)).length := by
            rw [htk, hk]; simp; omega
          obtain ⟨⟨q0, q1, q2⟩, -⟩ := hh7.blk.c3
          obtain ⟨⟨r0, r1⟩, -⟩ := hB7.c2
          have hj1 : IntKind.i64.wrap ((j : Int) + 1) = (j : Int) + 1 := by rw [IntKind.wrap_i64]; omega
          have HK9 := Lib.hid hk9
          simp only [Ord.cells] at hrun
          clear hl hk9 hfin htk hk ho ho1' ho3 U ho7 ho17 ho37 U7 V9 hu9 hh hh7 hB7 hrd p0' p1' UA hmo hfo hoe hwf hk31
          repeat' ((fail_if_success (with_reducible refine stop_append rfl ?_)); (fail_if_success (with_reducible refine stop_copy rfl ?_)); first | go_values | go_skip | go_guarded | go_step | go_upon | (simp only []; go_at_K))
          go_region_law (refine step_run rfl (.tmp 27) (.tmp 35) 28 rfl (.slice A k c) (.slice (some ⟨W.heap.size, 0, none⟩) 1 1) _ w9 rfl rfl hrun ?_)
          all_goals (repeat' ((fail_if_success (with_reducible refine stop_append rfl ?_)); (fail_if_success (with_reducible refine stop_copy rfl ?_)); first | go_values | go_skip | go_guarded | go_step | go_upon | (simp only []; go_at_K)))
          all_goals exact ⟨⟨j + 1, A9, k + 1, c9, by omega, by simp, rfl, HK9.out, ho9, ho19, ho39, U9⟩, by simp [intOf]; omega⟩
        · obtain rfl : j = k3 := by omega
          have hjl : ¬ ((j : Int) < (j : Int)) := by omega
          have hi1 : IntKind.i64.wrap ((i : Int) + 1) = (i : Int) + 1 := by rw [IntKind.wrap_i64]; omega
          have hend : (ps.take i).flatMap (fun p => atP p L) ++ (atP p L).take j = (ps.take (i + 1)).flatMap (fun p => atP p L) := by
            rw [HF.out, HK3.out, List.take_length]
          rw [hend] at hk ho
          have HK9 := Lib.hid hk
          clear hk hend ho3
          repeat' ((fail_if_success (with_reducible refine stop_append rfl ?_)); (fail_if_success (with_reducible refine stop_copy rfl ?_)); first | go_values | go_skip | go_guarded | go_step | go_upon | (simp only []; go_at_K))
          exact ⟨⟨i + 1, A, k, c, by omega, by simp, rfl, HK9.out, ho, ho1', U⟩, by simp [intOf]; omega⟩
    · obtain rfl : i = ps.length := by omega
      have hil : ¬ ((ps.length : Int) < (ps.length : Int)) := by omega
      rw [List.take_length, ← hps.flat h.sd.rising] at hk ho
      subst hk
      clear ho1' ho1 hu1
      repeat' ((fail_if_success (with_reducible refine stop_append rfl ?_)); (fail_if_success (with_reducible refine stop_copy rfl ?_)); first | go_values | go_skip | go_guarded | go_step | go_upon | (simp only []; go_at_K))
      go_ret
      exact ⟨A, c, rfl, ho, U⟩
end Go.Proofs.Ytdmmpcdilkcfjaa
