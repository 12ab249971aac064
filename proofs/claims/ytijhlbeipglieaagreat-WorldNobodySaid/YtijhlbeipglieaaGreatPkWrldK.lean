/- Merged: WrldJ, RecV, EvIn, WrldK. -/
import Derived.Test.YtijhlbeipglieaaGreatPkWrldF
import Derived.Test.YtijhlbeipglieaaGreatPkWrldO
import Derived.Test.YtijhlbeipglieaaGreatPkWorld
import Derived.Lib.SlBytesConst
import Derived.Test.YtijhlbeipglieaaGreatPkIn
import Derived.Test.YtijhlbeipglieaaGreatPkDeed
import Derived.Test.YtijhlbeipglieaaGreatPkAlog
import Derived.Deep.Slices
import Derived.SizedLaws
import Derived.Test.YtijhlbeipglieaaGreatPkWrldT
/- Layer 24: Done, by plain worlds; agiolaw24's awake. -/
namespace Go.Proofs.YtijhlbeipglieaaGreat
open Go.RowKit Agio Go.Maps

/-- Done of a site that is there. -/
theorem worldDoneP (w : World) (V : WV) (h : WS w V) (hD : DInv V.pl) (i : Nat) (hi : i < V.pl.ss.length) :
    Calls Tryz.prog 41 #[V.ptr, .int .i64 (i : Int)] w fun e w' => ∃ (A : Option Addr) (c : Nat) (l : List Bsl) (V' : WV), e = .returned (.slice A l.length c) ∧ l.map Bsl.b = (V.pl.take i).done.getD i [] ∧ OwnS w' A c l ∧
      (∀ k ∈ ablk A, w.heap.size ≤ k ∧ k ∉ V'.fp) ∧ (∀ x ∈ l, ∀ k ∈ ablk x.A, w.heap.size ≤ k ∧ k ∉ V'.fp) ∧ WS w' V' ∧ V'.pl = V.pl.take i ∧ V'.gw = V.gw ∧ Upd V.fp V'.fp w w' := by
  have hiV : i < V.ss.length := by unfold WV.pl at hi; simpa using hi
  have hid : i < V.dn.length := by rw [h.dlen]; exact hiV
  have hM : V.ss[i]? = some V.ss[i] := List.getElem?_eq_getElem hiV
  have hd : V.dn[i]? = some V.dn[i] := List.getElem?_eq_getElem hid
  have hMp : V.pl.ss[i]? = some V.ss[i].pl := by rw [V.ss_pl, hM]; rfl
  have hdp : V.pl.done[i]? = some (V.dn[i].l.map Bsl.b) := by unfold WV.pl; simp [hd]
  obtain ⟨d, h1, h2⟩ := hD.one i _ hMp
  rw [hdp] at h1
  injection h1 with h1
  rw [← h1] at h2
  have e : (V.pl.take i).done.getD i [] = V.dn[i].l.map Bsl.b ++ V.ss[i].pl.takes.2.filter (fun v => decide (v ≠ [])) := by
    unfold Wd.take
    rw [hMp]
    simp only
    rw [List.getD_eq_getElem?_getD, List.getElem?_set_self (by rw [hD.len]; exact hi), List.getD_eq_getElem?_getD, hdp]
    rfl
  rw [e]
  exact worldDone w V h i _ hM _ hd h2
set_option maxRecDepth 100000 in
theorem worldDone_none (w : World) (W : Value) (i : Int) (C : AtC w W i none) : Calls Tryz.prog 41 #[W, .int .i64 i] w fun e w' => e = .returned (.slice none 0 0) ∧ w = w' := by
  unfold AtC ptrO at C
  go_enter Tryz.func41, Tryz.ntmps41
  repeat' ((fail_if_success (with_reducible refine stop_append rfl ?_)); first | go_values | go_skip | go_guarded | go_step | go_upon | (simp only []; go_at_K))
  ((with_reducible refine C.mono ?_); rintro e w1 ⟨rfl, rfl⟩)
  repeat' ((fail_if_success (with_reducible refine stop_append rfl ?_)); first | go_values | go_skip | go_guarded | go_step | go_upon | (simp only []; go_at_K))
  go_ret
  exact ⟨rfl, rfl⟩
set_option maxRecDepth 100000 in
set_option maxHeartbeats 4000000 in
theorem worldAwake (w : World) : Calls Tryz.prog 38 #[] w fun e w' => e = .returned (.bool true) ∧ Upd [] [] w w' := by
  have C1 : Calls Tryz.prog 49 #[.int .i64 3, .int .i64 4] w fun e w' => ∃ V : WV, e = .returned (.tuple #[V.ptr, .int .i64 0]) ∧ WS w' V ∧ V.pl = Wd.new 3 4 ∧ (∀ k ∈ V.fp, w.heap.size ≤ k) ∧ Upd [] V.fp w w' := worldNew w 3 4 newOk34
  have kc := fun (w : World) (C : Array Value) (n c : Nat) => Lib.run_convert_bytes_const (P := Tryz.prog) w 28 5 C n c Tryz.underlying28 Tryz.underlying5
  have HW := Lib.hid (show WLv (Wd.new 3 4) 300 from fun i s hs => ((WInv.new newOk34 (fun _ _ => True)).lv i s hs).less (by omega))
  have HDO := Lib.hid awk0_do
  go_enter Tryz.func38, Tryz.ntmps38
  repeat' ((fail_if_success (with_reducible refine stop_append rfl ?_)); first | go_values | go_skip | go_guarded | go_step | go_upon | (simp only []; go_at_K))
  ((with_reducible refine C1.mono ?_); rintro e w1 ⟨V1, rfl, h1, hp1, -, u1⟩)
  clear C1
  simp only [WV.ptr]
  repeat' ((fail_if_success (with_reducible refine stop_append rfl ?_)); first | go_values | go_skip | go_guarded | go_step | go_upon | (simp only []; go_at_K))
  clear kc
  obtain ⟨W, hW⟩ : ∃ W, w1.alloc (.cells #[.int .u8 120] 5 (1, 2)) = W := ⟨_, rfl⟩
  obtain ⟨H, hH⟩ : ∃ H, w1.heap.size = H := ⟨_, rfl⟩
  have U0 : Upd [] [] w1 W := by rw [← hW]; exact (Upd.refl [] w1).alloc _
  have hv : RdB W (some ⟨H, 0, none⟩) 1 [120] := by rw [← hW, ← hH]; exact Rd.new _ _ rfl
  have C2 := worldDo W V1 (h1.upd0 U0) ⟨1, 1, 0, 0, some ⟨H, 0, none⟩, 1, 1, [120]⟩ (show (Lit.int .i64 1).wf = true by decide) hv (by simp) (by rw [hp1]; exact HW.out)
  unfold HapC at C2
  rw [hp1, show ((Wd.new 3 4).do_ 1 1 0 0 [120]) = (awk0, 1, 0) from Prod.ext rfl HDO.out, WV.ptr, Ev.val_eq] at C2
  rw [hW, hH]
  have U1 := (u1.gives (b' := V1.fp) (fun k hk => u1.fresh k hk)).trans (U0.up _)
  clear hW hH hv U0 h1 u1 HDO HW
  ((with_reducible refine C2.mono ?_); rintro e w2 ⟨rfl, V2, h2, hp2, hg2, u2⟩)
  have hp2' : V2.pl = awk0 := hp2
  obtain ⟨G0, hI0⟩ := awk0_inv
  have C3 := worldRound w2 V2 h2 (by rw [hp2']; exact (hI0.less (by omega)).roundOk)
  rw [WV.ptr, hg2, hp2'] at C3
  have U2 := U1.trans u2
  clear C2 U1 u2 h2 hp2 hI0
  repeat' ((fail_if_success (with_reducible refine stop_append rfl ?_)); first | go_values | go_skip | go_guarded | go_step | go_upon | (simp only []; go_at_K))
  ((with_reducible refine C3.mono ?_); rintro e w3 ⟨rfl, V3, h3, hp3, hg3, u3⟩)
  have hp3' : V3.pl = awk1 := hp3
  obtain ⟨G1, hI1⟩ := awk1_inv
  have C4 := worldRound w3 V3 h3 (by rw [hp3']; exact (hI1.less (by omega)).roundOk)
  rw [WV.ptr, hg3, hg2, hp3'] at C4
  have U3 := U2.trans u3
  clear C3 U2 u3 h3 hp3 hI1
  repeat' ((fail_if_success (with_reducible refine stop_append rfl ?_)); first | go_values | go_skip | go_guarded | go_step | go_upon | (simp only []; go_at_K))
  ((with_reducible refine C4.mono ?_); rintro e w4 ⟨rfl, V4, h4, hp4, hg4, u4⟩)
  have hp4' : V4.pl = awkT 0 := hp4
  have U4 := U3.trans u4
  clear C4 U3 u4 hp4
  repeat' ((fail_if_success (with_reducible refine stop_append rfl ?_)); first | go_values | go_skip | go_guarded | go_step | go_upon | (simp only []; go_at_K))
  go_loopw [5] (fun v5 wr => KeptW (∃ (i : Nat) (V : WV), i ≤ 3 ∧ v5 = .int .i64 (i : Int) ∧ WS wr V ∧ V.pl = awkT i ∧ V.gw = V1.gw ∧ Upd [] V.fp w wr)) (fun v5 _ => 3 - (intOf v5).toNat)
  case atStart => exact KeptW.mk ⟨0, V4, by omega, rfl, h4, hp4', by rw [hg4, hg3, hg2], U4⟩
  case round =>
    obtain ⟨i, V, hi, rfl, h, hp, hg, U⟩ := hrel.out
    clear hrel h4 U4
    by_cases hlt : i < 3
    · have hil : (i : Int) < 3 := by omega
      have hw1 : IntKind.i64.wrap ((i : Int) + 1) = (i : Int) + 1 := by rw [IntKind.wrap_i64]; omega
      have C := worldDoneP wr V h (by rw [hp]; exact awkT_dinv i) i (by rw [hp, awkT_len]; exact hlt)
      obtain ⟨a1, a2⟩ := awk_all i hlt
      rw [hp] at C
      rw [show (awkT i).take i = awkT (i + 1) from rfl, a1, WV.ptr, hg] at C
      clear a1 h
      repeat' ((fail_if_success (with_reducible refine stop_append rfl ?_)); first | go_values | go_skip | go_guarded | go_step | go_upon | (simp only []; go_at_K))
      ((with_reducible refine C.mono ?_); rintro e w5 ⟨A, c, l, V5, rfl, hl, ho, hA, hx, h5, hp5, hg5, u5⟩)
      obtain ⟨x, rfl⟩ : ∃ x, l = [x] := List.length_eq_one_iff.1 (by have := congrArg List.length hl; simpa using this)
      have hxb : x.b = [120] := by simpa using hl
      have CA := worldAt w5 V5 h5 (i : Int)
      rw [WV.at_nat] at CA
      have CF := @worldFrontier ⟨[]⟩ _ _ _ _ CA (fun M hM => h5.sites M (List.mem_of_getElem? hM))
      have e2 : ((V5.ss[i]?).map fun M => M.pl.front).getD 0 = 2 := by
        rw [← hp5, V5.ss_pl, Option.map_map] at a2
        exact a2
      rw [e2, WV.ptr, hg5] at CF
      obtain ⟨gA, cur, rfl, hB, -⟩ := ho.own.block (by simp)
      have c0 : w5.cell? ⟨gA, 0, none⟩ = some (.slice x.A x.n x.c) := by rw [hB.cell]; rfl
      have hs := strOf (ho.each x (by simp)).rd x.c
      rw [hxb] at hs
      have U5 := U.trans u5
      have KEY := Lib.hid (show WS w5 V5 ∧ V5.pl = awkT (i + 1) ∧ V5.gw = V1.gw ∧ Upd [] V5.fp w w5 from ⟨h5, hp5, hg5, U5⟩)
      clear C hl ho hA hx h5 hp5 u5 hB CA U U5 a2 e2 hp
      simp only [List.length_singleton]
      repeat' ((fail_if_success (with_reducible refine stop_append rfl ?_)); first | go_values | go_skip | go_guarded | go_step | go_upon | (simp only []; go_at_K))
      ((with_reducible refine CF.mono ?_); rintro e w6 ⟨rfl, rfl⟩)
      repeat' ((fail_if_success (with_reducible refine stop_append rfl ?_)); first | go_values | go_skip | go_guarded | go_step | go_upon | (simp only []; go_at_K))
      obtain ⟨k1, k2, k3, k4⟩ := KEY.out
      exact ⟨KeptW.mk ⟨i + 1, V5, by omega, by simp, k1, k2, k3, k4⟩, by simp [intOf]; omega⟩
    · obtain rfl : i = 3 := by omega
      have hil : ¬ (((3 : Nat) : Int) < 3) := by omega
      have U' : Upd [] [] w wr := U.gives (by simp)
      clear U h
      repeat' ((fail_if_success (with_reducible refine stop_append rfl ?_)); first | go_values | go_skip | go_guarded | go_step | go_upon | (simp only []; go_at_K))
      go_ret
      exact ⟨rfl, U'⟩
end Go.Proofs.YtijhlbeipglieaaGreat

/- Records that came in, their slots' numbers being numbers of 64 bits. -/
namespace Go.Proofs.YtijhlbeipglieaaGreat
open Go.ChangeShapes Go.WideShapes Go.RowKit Go.Deep Agio

section
variable {H : Type} {enc : TypeId × Value → H} {W : World} {base : Nat} {spare : Nat → Bool} {held : Bool} {a0 : Option Addr} {len cap : Nat} {d : DataW H} {p : List MemPlace}
theorem bytesV_in (h : DataW.Trod enc Tryz.prog W base spare held 28 (.slice a0 len cap) d p) (hw : ∀ k ∈ d.weights Tryz.prog 28, k ≤ reachBytes) :
    ∃ b : List UInt8, RdB W a0 len b ∧ len ≤ cap ∧ cap ≤ maxLen ∧ b.length ≤ 140737488351232 := by
  obtain ⟨b, h1, h2, h3, _, h5⟩ := bytes_in h
  refine ⟨b, h1, h2, h3, ?_⟩
  rcases h5 with ⟨_, rfl⟩ | ⟨sp, rfl⟩
  · simp
  · have := hw ((((b.map fun c => DataW.lit (.int .u8 (c.toNat : Int))) : List (DataW H)).length + sp.length) * Tryz.prog.bytesOf 5) (by simp [DataW.weights, Tryz.underlying28])
    rw [show Tryz.prog.bytesOf 5 = 1 by kernel_rfl] at this
    simp only [List.length_map, reachBytes] at this
    omega
theorem slice_formV {fuel : Nat} {v : Value} {x : DataW H × List MemPlace} (h : DataW.trod enc Tryz.prog W base spare held fuel 28 [v] = some x) : ∃ A n c, v = .slice A n c := by
  rcases open_ints Tryz.underlying28 Tryz.underlying5 (by kernel_rfl) h with ⟨hcs, _⟩ | ⟨x, l, c, zs, hcs, _⟩
  · simp at hcs; exact ⟨_, _, _, hcs⟩
  · simp at hcs; exact ⟨_, _, _, hcs⟩
end
end Go.Proofs.YtijhlbeipglieaaGreat

/- Events that came in. -/
namespace Go.Proofs.YtijhlbeipglieaaGreat
open Go.ChangeShapes Go.WideShapes Go.RowKit Go.Deep Agio
def Ev.cells (x : Ev) : List Value := [.int .i64 x.k, .int .i64 x.s, .int .i64 x.at_, .int .i64 x.n, .slice x.A x.l x.c]
/-- What an event points to can be read; its numbers are numbers. -/
structure Ev.Rds (w : World) (x : Ev) : Prop where
  v : RdB w x.A x.l x.b
  len : x.b.length ≤ 140737488351232
  k : (Lit.int .i64 x.k).wf = true
  s : (Lit.int .i64 x.s).wf = true
  at_ : (Lit.int .i64 x.at_).wf = true
section
variable {H : Type} {enc : TypeId × Value → H} {W : World} {base : Nat} {spare : Nat → Bool} {held : Bool} {a0 : Option Addr} {len cap : Nat} {d : DataW H} {p : List MemPlace}
set_option maxRecDepth 100000 in
/-- An event of its cells. -/
theorem ev_of {n : Nat} {cs : List Value} {y : DataW H × List MemPlace} (ht : DataW.trod enc Tryz.prog W base spare held n 85 cs = some y) (hw : ∀ k ∈ y.1.weights Tryz.prog 85, k ≤ reachBytes) :
    ∃ x : Ev, cs = x.cells ∧ Ev.Rds W x := by
  obtain ⟨hlen, m, hfl⟩ := struct_inW Tryz.underlying85 ht hw
  have hlen2 : cs.length = 5 := by rw [hlen]; kernel_rfl
  have i1 : Tryz.prog.cellsOf 3 = 1 := by kernel_rfl
  have i4 : Tryz.prog.cellsOf 28 = 1 := by kernel_rfl
  match cs, hlen2 with
  | [a0, a1, a2, a3, a4], _ =>
    obtain ⟨w0, t0, -⟩ : ∃ y, DataW.trod enc Tryz.prog W base spare held m 3 (([a0, a1, a2, a3, a4].drop 0).take (Tryz.prog.cellsOf 3)) = some y ∧ _ := hfl 0 _ rfl
    rw [i1] at t0
    obtain ⟨w1, t1, -⟩ : ∃ y, DataW.trod enc Tryz.prog W base spare held m 3 (([a0, a1, a2, a3, a4].drop 1).take (Tryz.prog.cellsOf 3)) = some y ∧ _ := hfl 1 _ rfl
    rw [i1] at t1
    obtain ⟨w2, t2, -⟩ : ∃ y, DataW.trod enc Tryz.prog W base spare held m 3 (([a0, a1, a2, a3, a4].drop 2).take (Tryz.prog.cellsOf 3)) = some y ∧ _ := hfl 2 _ rfl
    rw [i1] at t2
    obtain ⟨w3, t3, -⟩ : ∃ y, DataW.trod enc Tryz.prog W base spare held m 3 (([a0, a1, a2, a3, a4].drop 3).take (Tryz.prog.cellsOf 3)) = some y ∧ _ := hfl 3 _ rfl
    rw [i1] at t3
    obtain ⟨w4, t4, hk⟩ : ∃ y, DataW.trod enc Tryz.prog W base spare held m 28 (([a0, a1, a2, a3, a4].drop 4).take (Tryz.prog.cellsOf 28)) = some y ∧ ∀ k ∈ y.1.weights Tryz.prog 28, k ≤ reachBytes := hfl 4 _ rfl
    rw [i4] at t4
    simp only [List.drop_succ_cons, List.drop_zero, List.take_succ_cons, List.take_zero] at t0 t1 t2 t3 t4
    obtain ⟨x0, e0, -, f0⟩ := DataW.trod_int Tryz.underlying3 t0
    obtain ⟨x1, e1, -, f1⟩ := DataW.trod_int Tryz.underlying3 t1
    obtain ⟨x2, e2, -, f2⟩ := DataW.trod_int Tryz.underlying3 t2
    obtain ⟨x3, e3, -, -⟩ := DataW.trod_int Tryz.underlying3 t3
    simp only [List.cons.injEq, and_true] at e0 e1 e2 e3
    obtain ⟨A, k, c, rfl⟩ := slice_formV t4
    obtain ⟨b, hb, _, _, hbl⟩ := bytesV_in (d := w4.1) (p := w4.2) ⟨m, t4⟩ hk
    exact ⟨⟨x0, x1, x2, x3, A, k, c, b⟩, by simp [Ev.cells, e0, e1, e2, e3], hb, hbl, f0, f1, f2⟩
theorem ev_in {cs : Array Value} (h : DataW.Trod enc Tryz.prog W base spare held 85 (.agg cs) d p) (hw : ∀ k ∈ d.weights Tryz.prog 85, k ≤ reachBytes) :
    ∃ x : Ev, Value.agg cs = x.val ∧ Ev.Rds W x := by
  obtain ⟨fuel, hf⟩ := h
  obtain ⟨x, hx, hr⟩ := ev_of hf hw
  have hc : (Value.agg cs).cells = cs := rfl
  rw [hc] at hx
  refine ⟨x, ?_, hr⟩
  rw [Ev.val_eq, show cs = x.cells.toArray by rw [← hx]]
  rfl
end
end Go.Proofs.YtijhlbeipglieaaGreat

/- Layer 24: a world that is nil; agiolaw24.WorldNobody. -/
namespace Go.Proofs.YtijhlbeipglieaaGreat
open Go.RowKit Agio Go.Maps

set_option maxRecDepth 100000 in
theorem worldDo_nil (w : World) (x : Ev) : Calls Tryz.prog 44 #[.pointer none, x.val] w fun e w' => e = .returned (.tuple #[.int .i64 0, .int .i64 1]) ∧ Upd [] [] w w' := by
  obtain ⟨W, H, eW, hH, hBx, U0⟩ := boxes1 w 85 #[.int .i64 x.k, .int .i64 x.s, .int .i64 x.at_, .int .i64 x.n, .slice x.A x.l x.c]
  have U0' := U0.gives (b' := []) (by simp)
  rw [Ev.val_eq]
  clear hBx
  go_enter Tryz.func44, Tryz.ntmps44
  repeat' ((fail_if_success (with_reducible refine stop_append rfl ?_)); first | go_values | go_skip | go_guarded | go_step | go_upon | (simp only []; go_at_K))
  go_ret2
  exact ⟨rfl, U0'⟩
set_option maxRecDepth 100000 in
theorem worldRound_nil (w : World) : Calls Tryz.prog 43 #[.pointer none] w fun e w' => e = .returned (.int .i64 0) ∧ w = w' := by
  go_enter Tryz.func43, Tryz.ntmps43
  repeat' ((fail_if_success (with_reducible refine stop_append rfl ?_)); first | go_values | go_skip | go_guarded | go_step | go_upon | (simp only []; go_at_K))
  go_ret
  exact ⟨rfl, rfl⟩
set_option maxRecDepth 100000 in
set_option maxHeartbeats 4000000 in
theorem worldNobody_any (w : World) (x : Ev) (hx : Ev.Rds w x) (s : Int) (hs : (Lit.int .i64 s).wf = true) : Calls Tryz.prog 13 #[x.val, .int .i64 s] w fun e w' => e = .returned (.bool true) ∧ Upd [] [] w w' := by
  obtain ⟨W, H, eW, hH, hBx, U0⟩ := boxes1 w 85 #[.int .i64 x.k, .int .i64 x.s, .int .i64 x.at_, .int .i64 x.n, .slice x.A x.l x.c]
  have U0' := U0.gives (b' := []) (by simp)
  have C1 := worldAwake W
  have hA : ∀ w i, AtC w (.pointer none) i none := fun w i => worldAt_nil w i
  have CD := fun w => @worldDecided ⟨[]⟩ w _ _ none (hA w s) (fun M h => by cases h) x.at_ hx.at_
  have CF := fun w => @worldFrontier ⟨[]⟩ w _ _ none (hA w s) (fun M h => by cases h)
  have CT := fun w => @worldTop ⟨[]⟩ w _ _ none (hA w s) (fun M h => by cases h)
  have CW := fun w => @worldDown ⟨[]⟩ w _ _ none (hA w s) (fun M h => by cases h)
  have CO := fun w => worldDone_none w _ s (hA w s)
  simp only [Option.bind_none, Option.isSome_none, Option.map_none, Option.getD_none] at CD CF CT CW
  have HNew := fun w => (worldNew w 3 1 (by decide))
  have hmax : ∃ m : Int, max s 0 = m ∧ 0 ≤ m := ⟨_, rfl, by omega⟩
  obtain ⟨m, hm, hm0⟩ := hmax
  rw [Ev.val_eq]
  clear hs
  go_enter Tryz.func13, Tryz.ntmps13
  repeat' ((fail_if_success (with_reducible refine stop_append rfl ?_)); first | go_values | go_skip | go_guarded | go_step | go_upon | (simp only []; go_at_K))
  ((with_reducible refine C1.mono ?_); rintro e w1 ⟨rfl, u1⟩)
  have hB1 := hBx.upd u1 (by simp)
  obtain ⟨⟨b0, b1, b2, b3, b4⟩, -⟩ := hB1.c5
  clear C1 hBx
  repeat' ((fail_if_success (with_reducible refine stop_append rfl ?_)); first | go_values | go_skip | go_guarded | go_step | go_upon | (simp only []; go_at_K))
  have C2 := worldDo_nil w1 x
  rw [Ev.val_eq] at C2
  ((with_reducible refine C2.mono ?_); rintro e w2 ⟨rfl, u2⟩)
  have hB2 := hB1.upd u2 (by simp)
  clear b0 b1 b2 b3 b4 C2 hB1
  obtain ⟨⟨b0, b1, b2, b3, b4⟩, -⟩ := hB2.c5
  repeat' ((fail_if_success (with_reducible refine stop_append rfl ?_)); first | go_values | go_skip | go_guarded | go_step | go_upon | (simp only []; go_at_K))
  ((with_reducible refine (CD w2).mono ?_); rintro e w3 ⟨A3, n3, c3, rfl, -, u3⟩)
  have u3' := u3.gives (b' := []) (by simp)
  clear b0 b1 b2 b3 b4 hB2 CD u3
  repeat' ((fail_if_success (with_reducible refine stop_append rfl ?_)); first | go_values | go_skip | go_guarded | go_step | go_upon | (simp only []; go_at_K))
  have C4 := HNew w3
  rw [show ((3 : Nat) : Int) = 3 from rfl, show ((1 : Nat) : Int) = 1 from rfl] at C4
  ((with_reducible refine C4.mono ?_); rintro e w4 ⟨V, rfl, hV, hp, -, u4⟩)
  have u4' := u4.gives (b' := []) (by simp)
  have hlen : V.ss.length = 3 := by have := congrArg (fun p : Wd => p.ss.length) hp; simpa [WV.pl, Wd.new] using this
  clear C4 u4 HNew hp
  rw [WV.ptr]
  repeat' ((fail_if_success (with_reducible refine stop_append rfl ?_)); first | go_values | go_skip | go_guarded | go_step | go_upon | (simp only []; go_at_K))
  obtain ⟨j, hj⟩ : ∃ j, 3 + m % 5 = j := ⟨_, rfl⟩
  have hnone : V.at_ j = none := by unfold WV.at_; rw [if_pos (by omega)]; exact List.getElem?_eq_none (by omega)
  have hU : Upd [] [] w w4 := (((U0'.trans u1).trans u2).trans u3').trans u4'
  rw [hj]
  clear hj hm hm0 hlen u1 u2 u3' u4' U0'
  ((with_reducible refine (worldRound_nil w4).mono ?_); rintro e w5 ⟨rfl, rfl⟩)
  repeat' ((fail_if_success (with_reducible refine stop_append rfl ?_)); first | go_values | go_skip | go_guarded | go_step | go_upon | (simp only []; go_at_K))
  ((with_reducible refine (CF w4).mono ?_); rintro e w5 ⟨rfl, rfl⟩)
  repeat' ((fail_if_success (with_reducible refine stop_append rfl ?_)); first | go_values | go_skip | go_guarded | go_step | go_upon | (simp only []; go_at_K))
  ((with_reducible refine (CT w4).mono ?_); rintro e w5 ⟨rfl, u5⟩)
  repeat' ((fail_if_success (with_reducible refine stop_append rfl ?_)); first | go_values | go_skip | go_guarded | go_step | go_upon | (simp only []; go_at_K))
  ((with_reducible refine (CW w5).mono ?_); rintro e w6 ⟨rfl, rfl⟩)
  repeat' ((fail_if_success (with_reducible refine stop_append rfl ?_)); first | go_values | go_skip | go_guarded | go_step | go_upon | (simp only []; go_at_K))
  ((with_reducible refine (CO w5).mono ?_); rintro e w6 ⟨rfl, rfl⟩)
  repeat' ((fail_if_success (with_reducible refine stop_append rfl ?_)); first | go_values | go_skip | go_guarded | go_step | go_upon | (simp only []; go_at_K))
  ((with_reducible refine (worldPackets_nil w5).mono ?_); rintro e w6 ⟨rfl, rfl⟩)
  have hV5 := hV.upd0 u5
  have hA5 : AtC w5 V.ptr j none := by have := worldAt w5 V hV5 j; rw [hnone] at this; exact this
  have D1 := @worldDown ⟨[]⟩ w5 _ _ none hA5 (fun M h => by cases h)
  have D2 := @worldTop ⟨[]⟩ w5 _ _ none hA5 (fun M h => by cases h)
  simp only [Option.map_none, Option.getD_none] at D1 D2
  rw [WV.ptr] at D1 D2
  repeat' ((fail_if_success (with_reducible refine stop_append rfl ?_)); first | go_values | go_skip | go_guarded | go_step | go_upon | (simp only []; go_at_K))
  ((with_reducible refine D1.mono ?_); rintro e w6 ⟨rfl, rfl⟩)
  repeat' ((fail_if_success (with_reducible refine stop_append rfl ?_)); first | go_values | go_skip | go_guarded | go_step | go_upon | (simp only []; go_at_K))
  ((with_reducible refine D2.mono ?_); rintro e w6 ⟨rfl, u6⟩)
  have hV6 := hV5.upd0 u6
  have hA6 : AtC w6 V.ptr j none := by have := worldAt w6 V hV6 j; rw [hnone] at this; exact this
  have D3 := worldDone_none w6 _ j hA6
  rw [WV.ptr] at D3
  repeat' ((fail_if_success (with_reducible refine stop_append rfl ?_)); first | go_values | go_skip | go_guarded | go_step | go_upon | (simp only []; go_at_K))
  ((with_reducible refine D3.mono ?_); rintro e w7 ⟨rfl, rfl⟩)
  repeat' ((fail_if_success (with_reducible refine stop_append rfl ?_)); first | go_values | go_skip | go_guarded | go_step | go_upon | (simp only []; go_at_K))
  go_ret
  exact ⟨rfl, (hU.trans u5).trans u6⟩
end Go.Proofs.YtijhlbeipglieaaGreat
