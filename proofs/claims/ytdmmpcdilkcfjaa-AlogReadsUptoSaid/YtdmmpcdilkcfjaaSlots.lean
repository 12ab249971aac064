/- alog.Slots. -/
import Derived.Test.YtdmmpcdilkcfjaaPlainKeys
import Derived.Test.YtdmmpcdilkcfjaaLaySlots
import Derived.Test.YtdmmpcdilkcfjaaAlog5
namespace Go.Proofs.Ytdmmpcdilkcfjaa
open Go.RowKit Agio Go.Maps Go.Sort Go.Shelf

theorem mapI_upS {w : World} {b : Nat} {M : KV} (h : MapI Try.prog 3 w b M) : Agio.Up (keysK M) := by
  unfold Agio.Up keysK
  rw [List.pairwise_map]
  exact h.sorted (int_keyed Try.underlying3)
theorem own_of_rowS {e : TypeId} {size base : Nat} {w : World} {v : Value} {n : Nat} {xs : List Value} (h : w.ownsRow base e size v n xs) : (∃ A c, v = .slice A n c ∧ Agio.Own e size w A n c xs) ∧ ∀ A c, v = .slice A n c → 0 < n → ∀ k ∈ ablk A, base ≤ k := by
  rcases h.2 with ⟨hv, hn⟩ | ⟨g, cap, cur, hv, hb, rest⟩
  · subst hn
    refine ⟨⟨none, 0, hv, ⟨h.1, .inl ⟨rfl, rfl⟩⟩⟩, fun A c _ h0 => by omega⟩
  · refine ⟨⟨some ⟨g, 0, none⟩, cap, hv, ⟨h.1, .inr ⟨g, cap, cur, rfl, Nat.zero_le _, rest⟩⟩⟩, fun A c hv' _ k hk => ?_⟩
    rw [hv] at hv'
    injection hv' with hA
    subst hA
    simp [ablk] at hk
    omega
theorem mapsKeysS (w : World) (b : Nat) : Calls Try.prog 64 #[.map (some b)] w fun e w' =>
    e = .returned (.func (.func 92) #[] #[.pointer (some ⟨w.heap.size, 0, none⟩)]) ∧ w' = w.alloc (.cells #[.map (some b)] 128) :=
  (callsIn_wide (n := 5)).1 (AnyZI.keys_in Try.keysS Fence.wide 5 trivial rfl (some b) w)
theorem sortsS (m : Nat) : AnyZI.SortsIn Try.prog Try.sortedS_ren Fence.wide m :=
  ⟨fun blk off cap ss W hH hblk hsz => callsIn_wide.2 (AnyM.slices_Sort_int Try.sortS blk off cap ss W hH hblk hsz),
   fun p cap W => callsIn_wide.2 (AnyM.slices_Sort_int_none Try.sortS p cap W)⟩

set_option maxHeartbeats 1000000 in
theorem slicesSortedS (w : World) (B b : Nat) (M : KV) (hB : Blk w B 128 #[.map (some b)]) (h : MapI Try.prog 3 w b M) (hl : M.length ≤ 1000000) :
    Calls Try.prog 63 #[.func (.func 92) #[] #[.pointer (some ⟨B, 0, none⟩)]] w fun e w' =>
      ∃ A c, e = .returned (.slice A M.length c) ∧ Agio.Own 3 1 w' A M.length c ((keysK M).map (Value.int .i64)) ∧ Upd [] (ablk A) w w' := by
  have hq := hB.cell 0
  simp only [List.getElem?_toArray, List.getElem?_cons_zero] at hq
  have hsz : Maps.size (datK M : DataW Value) = M.length := datK_size M
  have hseq : SeqGives Fence.wide 2 Try.prog 92 #[.pointer (some ⟨B, 0, none⟩)] encZ (fun ss => ss.Perm (intKeys (datK M))) (Maps.size (datK M : DataW Value)) w :=
    AnyZI.keys_gives (ρ := Try.keysS_ren) { Try.keysS with } Fence.wide _ trivial rfl (by omega) B b M.length _ w hB.lt hq h
  have cS := AnyZI.sorted_in Try.sortedS Fence.wide 5 trivial trivial trivial trivial rfl (by omega) (sortsS _) (enters_of Try.func91 (by kernel_rfl) rfl) 92 #[.pointer (some ⟨B, 0, none⟩)] trivial (enters_of Try.func92 (by kernel_rfl) rfl) _ _ (by rw [hsz]; unfold maxLen; omega) (by rw [hsz]; omega) w hseq
  refine ((callsIn_wide (n := 5)).1 cS).mono ?_
  rintro e w' ⟨v, ss, rfl, hp, hrow, hnil, hb⟩
  rw [intKeys_datK] at hp
  have hup := mapI_upS h
  rw [sort_up hp hup] at hrow
  have hlen : ss.length = M.length := by rw [hp.length_eq]; simp [keysK]
  rw [hlen] at hrow
  obtain ⟨⟨A, c, rfl, ho⟩, hbase⟩ := own_of_rowS hrow
  refine ⟨A, c, rfl, ho, Upd.of_below_new hb (fun k hk => ?_)⟩
  rcases Nat.eq_zero_or_pos M.length with h0 | h0
  · have hs : ss = [] := List.eq_nil_of_length_eq_zero (by omega)
    have := hnil.2 hs
    injection this with hA
    subst hA
    simp [ablk] at hk
  · exact hbase A c rfl h0 k hk

/-- The slots of records, rising, each once. -/
def slotsL (l : List Rv) : List Int := l.foldl (fun u x => insU x.s u) []
theorem slotsL_take {l : List Rv} {i : Nat} (h : i < l.length) : slotsL (l.take (i + 1)) = insU l[i].s (slotsL (l.take i)) := by
  unfold slotsL
  rw [List.take_succ_eq_append_getElem h, List.foldl_append]; rfl
theorem slotsL_snoc (l : List Rv) (x : Rv) : slotsL (l ++ [x]) = insU x.s (slotsL l) := by
  unfold slotsL
  rw [List.foldl_append]; rfl
theorem insU_len (x : Int) (l : List Int) : l.length ≤ (insU x l).length ∧ (insU x l).length ≤ l.length + 1 := by
  induction l with
  | nil => simp [insU]
  | cons y r ih =>
    unfold insU
    split
    · simp
    · split
      · simp
      · simp only [List.length_cons]; omega
theorem slotsL_len (l : List Rv) : (slotsL l).length ≤ l.length := by
  have key : ∀ (l : List Rv) (u : List Int), (l.foldl (fun u x => insU x.s u) u).length ≤ u.length + l.length := by
    intro l
    induction l with
    | nil => intro u; simp
    | cons x r ih =>
      intro u
      have h1 := ih (insU x.s u)
      have h2 := insU_len x.s u
      simp only [List.foldl_cons, List.length_cons]
      omega
  simpa [slotsL] using key l []

/-- What Slots tells. -/
def Slots07 (l : List Rv) (w : World) (e : Ending) (w' : World) : Prop :=
  ∃ A' c', e = .returned (.slice A' (slotsL l).length c') ∧ Agio.Own 3 1 w' A' (slotsL l).length c' ((slotsL l).map (Value.int .i64)) ∧ Upd [] (ablk A') w w'
set_option maxRecDepth 100000 in
set_option maxHeartbeats 2000000 in
theorem alogSlots (w : World) (A : Option Addr) (n c : Nat) (l : List Rv) (hr : Rvs w A n l) (hl : l.length ≤ 1000) (hwf : ∀ x ∈ l, (Lit.int .i64 x.s).wf = true) :
    Calls Try.prog 37 #[.slice A n c] w (Slots07 l w) := by
  have hn := hr.len
  subst hn
  have hM0 := MapI.made Try.prog 3 w
  have U0 : Upd [] [w.heap.size] w (w.alloc (.map #[] 0)) := ((Upd.refl [] w).alloc _).gives (by simp)
  obtain ⟨b, hb⟩ : ∃ b, w.heap.size = b := ⟨_, rfl⟩
  have hwb : w.heap.size ≤ b := by omega
  rw [hb] at hM0 U0
  have hmm := @run_makeMap Try.prog
  go_enter Try.func37, Try.ntmps37
  repeat' ((fail_if_success (with_reducible refine stop_append rfl ?_)); (fail_if_success (with_reducible refine stop_copy rfl ?_)); first | go_values | go_skip | go_guarded | go_step | go_upon | (simp only []; go_at_K))
  go_loopw [9] (fun v9 wr => ∃ (i : Nat) (M : KV), i ≤ l.length ∧ v9 = .int .i64 (i : Int) ∧ MapI Try.prog 3 wr b M ∧ keysK M = slotsL (l.take i) ∧ Upd [] [b] w wr)
    (fun v9 _ => l.length - (intOf v9).toNat)
  case atStart => exact ⟨0, [], by omega, rfl, hM0, rfl, U0⟩
  case round =>
    clear hM0 U0
    obtain ⟨i, M, hi, rfl, hM, hk, U⟩ := hrel
    by_cases hlt : i < l.length
    · have hil : (i : Int) < (l.length : Int) := by omega
      have hw1 : IntKind.i64.wrap ((i : Int) + 1) = (i : Int) + 1 := by rw [IntKind.wrap_i64]; omega
      obtain ⟨ad, hA, p0, p1, p2, p3, p4⟩ := (hr.upd U).at_ hlt
      subst hA
      have hx := hwf _ (List.getElem_mem hlt)
      have hst := slotsL_take hlt
      have hkl : M.length ≤ 1000 := by
        have h1 := slotsL_len (l.take i)
        rw [← hk] at h1
        simp only [keysK, List.length_map, List.length_take] at h1
        omega
      clear hr hwf
      generalize l[i] = x at *
      have hUp := mapI_upS hM
      have UB : Upd [] [] wr (wr.alloc (.cells #[.int .i64 x.k, .int .i64 x.s, .int .i64 x.r, .int .i64 x.t, .slice x.A x.n x.c] 77)) := (Upd.refl _ _).alloc _
      have hB := Blk.new wr 77 #[.int .i64 x.k, .int .i64 x.s, .int .i64 x.r, .int .i64 x.t, .slice x.A x.n x.c]
      have hM2 := hM.upd UB (by simp)
      have U2 := U.trans (UB.up [b])
      obtain ⟨W, eW⟩ : ∃ W, wr.alloc (.cells #[.int .i64 x.k, .int .i64 x.s, .int .i64 x.r, .int .i64 x.t, .slice x.A x.n x.c] 77) = W := ⟨_, rfl⟩
      rw [eW] at hB hM2 U2
      obtain ⟨⟨q0, q1, q2, q3, q4⟩, -⟩ := hB.c5
      clear UB hM U hB
      have HST := Lib.hid hst
      have HK := Lib.hid hk
      clear hst hk
      obtain ⟨w5, hrun5, hM5, hu5⟩ := hM2.store Try.underlying3 Try.underlying128 (by unfold maxLen; omega) hx (.agg #[])
      have hk5 := keysK_put hUp (mapI_upS hM5)
      have U5 := U2.trans hu5
      rw [HK.out, ← HST.out] at hk5
      have HK5 := Lib.hid hk5
      clear hM2 U2 hu5 hk5 hUp
      repeat' ((fail_if_success (with_reducible refine stop_append rfl ?_)); (fail_if_success (with_reducible refine stop_copy rfl ?_)); first | go_values | go_skip | go_guarded | go_step | go_upon | (simp only []; go_at_K))
      exact ⟨⟨i + 1, _, by omega, by simp, hM5, HK5.out, U5⟩, by simp [intOf]; omega⟩
    · obtain rfl : i = l.length := by omega
      have hil : ¬ ((l.length : Int) < (l.length : Int)) := by omega
      rw [List.take_length] at hk
      have hlen : (keysK M).length = M.length := by simp [keysK]
      have hkl : M.length ≤ 1000 := by
        have h1 := slotsL_len l
        rw [← hk, hlen] at h1
        omega
      have D := slicesSortedS _ wr.heap.size b M (Blk.new wr 128 #[.map (some b)]) (hM.alloc _) (by omega)
      have HK := Lib.hid hk
      have HL := Lib.hid hlen
      clear hk hlen hr hM hwf
      repeat' ((fail_if_success (with_reducible refine stop_append rfl ?_)); (fail_if_success (with_reducible refine stop_copy rfl ?_)); first | go_values | go_skip | go_guarded | go_step | go_upon | (simp only []; go_at_K))
      ((with_reducible refine (mapsKeysS _ b).mono ?_); rintro e w1 ⟨rfl, rfl⟩)
      repeat' ((fail_if_success (with_reducible refine stop_append rfl ?_)); (fail_if_success (with_reducible refine stop_copy rfl ?_)); first | go_values | go_skip | go_guarded | go_step | go_upon | (simp only []; go_at_K))
      ((with_reducible refine D.mono ?_); rintro e w2 ⟨A2, c2, rfl, ho, hu2⟩)
      clear D
      repeat' ((fail_if_success (with_reducible refine stop_append rfl ?_)); (fail_if_success (with_reducible refine stop_copy rfl ?_)); first | go_values | go_skip | go_guarded | go_step | go_upon | (simp only []; go_at_K))
      go_ret
      rw [← HL.out, HK.out] at ho ⊢
      exact ⟨A2, c2, rfl, ho, ((U.alloc _).gives (b' := []) (by simp)).trans hu2⟩
end Go.Proofs.Ytdmmpcdilkcfjaa
