/- A side: Prices, Best, At. -/
import Derived.Test.YtdmmpcdilkcfjaaSide4
import Derived.Test.YtdmmpcdilkcfjaaLayPrices
namespace Go.Proofs.Ytdmmpcdilkcfjaa
open Go.RowKit Agio Go.Maps Go.Sort Go.Shelf

theorem own_of_row {e : TypeId} {size base : Nat} {w : World} {v : Value} {n : Nat} {xs : List Value} (h : w.ownsRow base e size v n xs) : (∃ A c, v = .slice A n c ∧ Agio.Own e size w A n c xs) ∧ ∀ A c, v = .slice A n c → 0 < n → ∀ k ∈ ablk A, base ≤ k := by
  rcases h.2 with ⟨hv, hn⟩ | ⟨g, cap, cur, hv, hb, rest⟩
  · subst hn
    refine ⟨⟨none, 0, hv, ⟨h.1, .inl ⟨rfl, rfl⟩⟩⟩, fun A c _ h0 => by omega⟩
  · refine ⟨⟨some ⟨g, 0, none⟩, cap, hv, ⟨h.1, .inr ⟨g, cap, cur, rfl, Nat.zero_le _, rest⟩⟩⟩, fun A c hv' _ k hk => ?_⟩
    rw [hv] at hv'
    injection hv' with hA
    subst hA
    simp [ablk] at hk
    omega
theorem mapsKeys (w : World) (b : Nat) : Calls Try.prog 52 #[.map (some b)] w fun e w' =>
    e = .returned (.func (.func 70) #[] #[.pointer (some ⟨w.heap.size, 0, none⟩)]) ∧ w' = w.alloc (.cells #[.map (some b)] 92) :=
  (callsIn_wide (n := 5)).1 (AnyZI.keys_in Try.keysP Fence.wide 5 trivial rfl (some b) w)
theorem sortsP (m : Nat) : AnyZI.SortsIn Try.prog Try.sortedP_ren Fence.wide m :=
  ⟨fun blk off cap ss W hH hblk hsz => callsIn_wide.2 (AnyM.slices_Sort_int Try.sortP blk off cap ss W hH hblk hsz),
   fun p cap W => callsIn_wide.2 (AnyM.slices_Sort_int_none Try.sortP p cap W)⟩

set_option maxHeartbeats 1000000 in
theorem slicesSorted (w : World) (B b : Nat) (M : KV) (hB : Blk w B 92 #[.map (some b)]) (h : MapI Try.prog 2 w b M) (hl : M.length ≤ 1000000) :
    Calls Try.prog 51 #[.func (.func 70) #[] #[.pointer (some ⟨B, 0, none⟩)]] w fun e w' =>
      ∃ A c, e = .returned (.slice A M.length c) ∧ Agio.Own 2 1 w' A M.length c ((keysK M).map (Value.int .i64)) ∧ Upd [] (ablk A) w w' := by
  have hq := hB.cell 0
  simp only [List.getElem?_toArray, List.getElem?_cons_zero] at hq
  have hsz : Maps.size (datK M : DataW Value) = M.length := datK_size M
  have hseq : SeqGives Fence.wide 2 Try.prog 70 #[.pointer (some ⟨B, 0, none⟩)] encZ (fun ss => ss.Perm (intKeys (datK M))) (Maps.size (datK M : DataW Value)) w :=
    AnyZI.keys_gives (ρ := Try.keysP_ren) { Try.keysP with } Fence.wide _ trivial rfl (by omega) B b M.length _ w hB.lt hq h
  have cS := AnyZI.sorted_in Try.sortedP Fence.wide 5 trivial trivial trivial trivial rfl (by omega) (sortsP _) (enters_of Try.func69 (by kernel_rfl) rfl) 70 #[.pointer (some ⟨B, 0, none⟩)] trivial (enters_of Try.func70 (by kernel_rfl) rfl) _ _ (by rw [hsz]; unfold maxLen; omega) (by rw [hsz]; omega) w hseq
  refine ((callsIn_wide (n := 5)).1 cS).mono ?_
  rintro e w' ⟨v, ss, rfl, hp, hrow, hnil, hb⟩
  rw [intKeys_datK] at hp
  have hup := mapI_up' h
  rw [sort_up hp hup] at hrow
  have hlen : ss.length = M.length := by rw [hp.length_eq]; simp [keysK]
  rw [hlen] at hrow
  obtain ⟨⟨A, c, rfl, ho⟩, hbase⟩ := own_of_row hrow
  refine ⟨A, c, rfl, ho, Upd.of_below_new hb (fun k hk => ?_)⟩
  rcases Nat.eq_zero_or_pos M.length with h0 | h0
  · have hs : ss = [] := List.eq_nil_of_length_eq_zero (by omega)
    have := hnil.2 hs
    injection this with hA
    subst hA
    simp [ablk] at hk
  · exact hbase A c rfl h0 k hk

theorem slicesReverse (w : World) (A : Option Addr) (n c : Nat) (l : List Int) (h : Agio.Own 2 1 w A n c (l.map (Value.int .i64))) (hl : l.length ≤ 1000000) :
    Calls Try.prog 53 #[.slice A n c] w fun e w' => e = .returned (.tuple #[]) ∧ Agio.Own 2 1 w' A n c (l.reverse.map (Value.int .i64)) ∧ Upd (ablk A) (ablk A) w w' := by
  have hn : n = l.length := by have := h.len; simp at this; omega
  subst hn
  rcases h.2 with ⟨hv, h0⟩ | ⟨g, cap, cur, hv, hb, hg, hnc, hcm, hcs, htk⟩
  · injection hv with hA _ hc
    subst hA hc
    have hl0 : l = [] := List.eq_nil_of_length_eq_zero h0
    subst hl0
    refine (AnyE.slices_Reverse_empty Try.revP none 0 w).mono ?_
    rintro e w' ⟨rfl, rfl⟩
    exact ⟨rfl, h, Upd.refl _ _⟩
  · injection hv with hA _ hc
    subst hA hc
    have hH : Holds encZ w g 0 l.toArray := holds_of_block_i hg (by simpa using htk)
    refine (AnyE.slices_Reverse Try.revP encZ (fun _ => rfl) g 0 c l w hH (by omega)).mono ?_
    rintro e w' ⟨rfl, q, rfl⟩
    have e0 : putRow encZ (Sort.ahead w q) g 0 l.reverse.toArray = grow (putRow encZ (Sort.ahead w q) g 0 l.reverse.toArray) #[] := by
      generalize putRow encZ (Sort.ahead w q) g 0 l.reverse.toArray = W
      cases W
      simp [grow]
    have ho := ownsRow_sorted_i (os := #[]) (n := q) (ts := l.reverse) (ss := l) (by simp) (Nat.zero_le g) hg hnc hcm hcs
    have hu := grownBy_sorted_i (w := w) (g := g) (n := q) (os := #[]) l.reverse.toArray
    rw [← e0] at ho hu
    exact ⟨rfl, ho, hu.os, hu.tape, hu.output, hu.size, fun k hk hn => hu.block k hk (fun e => hn (by injection e with e; simp [ablk, e])), fun k hk => .inl hk⟩

theorem SideS.keys {w : World} {g bo br : Nat} {s : Int} {R : List Rw} {L : List Ord} (h : SideS w g s bo br R L) {K : KV} (hl : ∀ p, lookK p K = (rowR p R).map Rw.val) (p : Int) : p ∈ keysK K ↔ ∃ x ∈ L, x.price = p := by
  rw [mem_keysK, hl]
  constructor
  · intro hp
    obtain ⟨r, hr⟩ := Option.isSome_iff_exists.1 (by simpa using hp)
    obtain ⟨hrR, rfl⟩ := rowR_some hr
    obtain ⟨o, ho⟩ := List.exists_mem_of_ne_nil _ (h.each r hrR).2
    have := List.mem_filter.1 ho
    exact ⟨o, this.1, by simpa using this.2⟩
  · rintro ⟨x, hx, rfl⟩
    obtain ⟨r, hr, e⟩ := h.all x hx
    rw [← e, rowR_mem h.ps hr]; rfl
theorem better_asc {a b : Int} : better 2 a b = true ↔ a < b := by simp [better]
theorem better_desc {a b : Int} : better 1 a b = true ↔ b < a := by simp [better]

/-- What Prices tells. -/
def Prices20 (s : Int) (L : List Ord) (w : World) (e : Ending) (w' : World) : Prop :=
  ∃ A c ps, e = .returned (.slice A ps.length c) ∧ Agio.Own 2 1 w' A ps.length c (ps.map (Value.int .i64)) ∧ PricesOf s ps L ∧ ps.length ≤ 256 ∧ Upd [] (ablk A) w w'
set_option maxRecDepth 100000 in
set_option maxHeartbeats 1000000 in
theorem sidePrices (w : World) (g bo br : Nat) (s : Int) (R : List Rw) (L : List Ord) (h : SideS w g s bo br R L) :
    Calls Try.prog 25 #[.pointer (some ⟨g, 0, none⟩)] w (Prices20 s L w) := by
  obtain ⟨K, hK, hKl⟩ := h.rows
  have hKn := h.rowsLen hK hKl
  have hkeys := h.keys hKl
  have hup := mapI_up' hK
  obtain ⟨⟨q0, q1, q2⟩, -⟩ := h.blk.c3
  have hlen : (keysK K).length = K.length := by simp [keysK]
  have UB : Upd [] [] w (w.alloc (.cells #[.map (some br)] 92)) := (Upd.refl _ _).alloc _
  have hBk := Blk.new w 92 #[.map (some br)]
  have D := slicesSorted _ w.heap.size br K hBk (hK.alloc _) (by omega)
  have hb1 := h.blk.upd UB (by simp)
  have HH := Lib.hid h
  rcases h.side with rfl | rfl
  · have hps : PricesOf 1 (keysK K).reverse L := ⟨List.pairwise_reverse.2 (hup.imp fun h => better_desc.2 h), fun p => by rw [List.mem_reverse]; exact hkeys p⟩
    clear h hup hkeys hK hKl
    go_enter Try.func25, Try.ntmps25
    repeat' ((fail_if_success (with_reducible refine stop_append rfl ?_)); (fail_if_success (with_reducible refine stop_copy rfl ?_)); first | go_values | go_skip | go_guarded | go_step | go_upon | (simp only []; go_at_K))
    ((with_reducible refine (mapsKeys _ br).mono ?_); rintro e w1 ⟨rfl, rfl⟩)
    repeat' ((fail_if_success (with_reducible refine stop_append rfl ?_)); (fail_if_success (with_reducible refine stop_copy rfl ?_)); first | go_values | go_skip | go_guarded | go_step | go_upon | (simp only []; go_at_K))
    ((with_reducible refine D.mono ?_); rintro e w2 ⟨A, c, rfl, ho, hu2⟩)
    obtain ⟨⟨q0', q1', q2'⟩, -⟩ := (hb1.upd hu2 (by simp)).c3
    rw [← hlen] at ho
    have E := slicesReverse w2 A _ c (keysK K) ho (by omega)
    rw [hlen] at E
    clear q0 q1 q2 D hBk hb1
    repeat' ((fail_if_success (with_reducible refine stop_append rfl ?_)); (fail_if_success (with_reducible refine stop_copy rfl ?_)); first | go_values | go_skip | go_guarded | go_step | go_upon | (simp only []; go_at_K))
    ((with_reducible refine E.mono ?_); rintro e w3 ⟨rfl, ho3, hu3⟩)
    repeat' ((fail_if_success (with_reducible refine stop_append rfl ?_)); (fail_if_success (with_reducible refine stop_copy rfl ?_)); first | go_values | go_skip | go_guarded | go_step | go_upon | (simp only []; go_at_K))
    go_ret
    exact ⟨A, c, (keysK K).reverse, by simp [hlen], by simpa [hlen] using ho3, hps, by simp [hlen]; omega, (UB.trans hu2).trans hu3⟩
  · have hps : PricesOf 2 (keysK K) L := ⟨hup.imp fun h => better_asc.2 h, hkeys⟩
    clear h hup hkeys hK hKl
    go_enter Try.func25, Try.ntmps25
    repeat' ((fail_if_success (with_reducible refine stop_append rfl ?_)); (fail_if_success (with_reducible refine stop_copy rfl ?_)); first | go_values | go_skip | go_guarded | go_step | go_upon | (simp only []; go_at_K))
    ((with_reducible refine (mapsKeys _ br).mono ?_); rintro e w1 ⟨rfl, rfl⟩)
    repeat' ((fail_if_success (with_reducible refine stop_append rfl ?_)); (fail_if_success (with_reducible refine stop_copy rfl ?_)); first | go_values | go_skip | go_guarded | go_step | go_upon | (simp only []; go_at_K))
    ((with_reducible refine D.mono ?_); rintro e w2 ⟨A, c, rfl, ho, hu2⟩)
    obtain ⟨⟨q0', q1', q2'⟩, -⟩ := (hb1.upd hu2 (by simp)).c3
    clear q0 q1 q2 D hBk hb1
    repeat' ((fail_if_success (with_reducible refine stop_append rfl ?_)); (fail_if_success (with_reducible refine stop_copy rfl ?_)); first | go_values | go_skip | go_guarded | go_step | go_upon | (simp only []; go_at_K))
    go_ret
    exact ⟨A, c, keysK K, by simp [hlen], by simpa [hlen] using ho, hps, by omega, UB.trans hu2⟩

/-- The best price. -/
def bestO (L : List Ord) : Int := match L with | [] => 0 | o :: _ => o.price
theorem _root_.Agio.PricesOf.head {s : Int} {p : Int} {ps : List Int} {L : List Ord} (h : PricesOf s (p :: ps) L) (hL : Rising s L) : L ≠ [] ∧ bestO L = p := by
  obtain ⟨h1, -⟩ := h.split hL
  obtain ⟨x, hx, e⟩ := (h.all p).1 (by simp)
  have hm : x ∈ atP p L := List.mem_filter.2 ⟨hx, by simpa using e⟩
  refine ⟨fun e => (by subst e; cases hx), ?_⟩
  rw [h1]
  cases ha : atP p L with
  | nil => rw [ha] at hm; cases hm
  | cons y r =>
    have : y ∈ atP p L := by rw [ha]; simp
    simpa [bestO] using (List.mem_filter.1 this).2
set_option maxRecDepth 100000 in
set_option maxHeartbeats 1000000 in
theorem sideBest (w : World) (g bo br : Nat) (s : Int) (R : List Rw) (L : List Ord) (h : SideS w g s bo br R L) :
    Calls Try.prog 20 #[.pointer (some ⟨g, 0, none⟩)] w fun e w' => e = .returned (.tuple #[.int .i64 (bestO L), .bool (!L.isEmpty)]) ∧ Upd [] [] w w' := by
  have C := sidePrices w g bo br s R L h
  have hris := h.sd.rising
  clear h
  go_enter Try.func20, Try.ntmps20
  repeat' ((fail_if_success (with_reducible refine stop_append rfl ?_)); (fail_if_success (with_reducible refine stop_copy rfl ?_)); first | go_values | go_skip | go_guarded | go_step | go_upon | (simp only []; go_at_K))
  ((with_reducible refine C.mono ?_); rintro e w1 ⟨A, c, ps, rfl, ho, hps, hpl, hu1⟩)
  clear C
  cases ps with
  | nil =>
    have hL : L = [] := by
      cases L with
      | nil => rfl
      | cons x r => exact absurd ((hps.all x.price).2 ⟨x, by simp, rfl⟩) (by simp)
    subst hL
    repeat' ((fail_if_success (with_reducible refine stop_append rfl ?_)); (fail_if_success (with_reducible refine stop_copy rfl ?_)); first | go_values | go_skip | go_guarded | go_step | go_upon | (simp only []; go_at_K))
    go_ret2
    exact ⟨rfl, hu1.gives (by simp)⟩
  | cons p ps =>
    obtain ⟨hne, hb⟩ := hps.head hris
    have hLe : L.isEmpty = false := by cases L with | nil => exact absurd rfl hne | cons _ _ => rfl
    have HB := Lib.hid hb
    have HE := Lib.hid hLe
    obtain ⟨ad, u, rfl, hu, hc⟩ := ho.rd.at_ (k := 0) (by simp)
    simp only [List.map_cons, List.getElem?_cons_zero, Option.some.injEq] at hu
    subst hu
    have hc0 : w1.cell? ad = some (.int .i64 p) := by simpa [Addr.add] using hc
    have hn0 : (((p :: ps).length : Int) == 0) = false := by simp; omega
    have hlt : (0 : Int) < ((p :: ps).length : Int) := by simp
    clear ho hps hpl hc hb hne hris hLe
    generalize (p :: ps).length = n at *
    repeat' ((fail_if_success (with_reducible refine stop_append rfl ?_)); (fail_if_success (with_reducible refine stop_copy rfl ?_)); first | go_values | go_skip | go_guarded | go_step | go_upon | (simp only []; go_at_K))
    go_ret2
    exact ⟨by rw [HB.out, HE.out]; rfl, hu1.gives (by simp)⟩

set_option maxRecDepth 100000 in
set_option maxHeartbeats 1000000 in
theorem sideAt (w : World) (g bo br : Nat) (s : Int) (R : List Rw) (L : List Ord) (h : SideS w g s bo br R L) (p : Int) (hw : (Lit.int .i64 p).wf = true) :
    Calls Try.prog 21 #[.pointer (some ⟨g, 0, none⟩), .int .i64 p] w fun e w' => e = .returned (.int .i64 (sumAt p L)) ∧ Upd [] [] w w' := by
  have hl := h.rows.look hw 0
  obtain ⟨⟨q0, q1, q2⟩, -⟩ := h.blk.c3
  have hl' : (Instr.lookup 92 (.map (some br)) (.int .i64 p) false).run Try.prog w = .ok (((rowR p R).map Rw.val).getD (.pointer none)) w := hl
  have hsum : ∀ l : List Ord, sumI (l.map itO) = sumQ l := fun l => by simp [sumI, sumQ, List.foldl_map, itO]
  have hv : QuV w (((rowR p R).map Rw.val).getD (.pointer none)) ((atP p L).map itO) w.heap.size := by
    cases hr : rowR p R with
    | none =>
      refine .inl ⟨rfl, ?_⟩
      rw [atP_none]
      · rfl
      · intro x hx e
        obtain ⟨r, hrR, hrp⟩ := h.all x hx
        exact rowR_none hr r hrR (hrp.trans e)
    | some r =>
      obtain ⟨hrR, rfl⟩ := rowR_some hr
      exact (h.each r hrR).1.val
  have C := queueSum w _ _ hv
  rw [hsum] at C
  have hvv : ((rowR p R).map Rw.val).getD (.pointer none) = .pointer none ∨ ∃ a, ((rowR p R).map Rw.val).getD (.pointer none) = .pointer (some a) := by cases rowR p R with | none => exact .inl rfl | some r => exact .inr ⟨_, rfl⟩
  generalize ((rowR p R).map Rw.val).getD (.pointer none) = v at *
  rw [show sumAt p L = sumQ (atP p L) from rfl]
  clear h hv hl hsum
  go_enter Try.func21, Try.ntmps21
  repeat' ((fail_if_success (with_reducible refine stop_append rfl ?_)); (fail_if_success (with_reducible refine stop_copy rfl ?_)); first | go_values | go_skip | go_guarded | go_step | go_upon | (simp only []; go_at_K))
  ((with_reducible refine C.mono ?_); rintro e w1 ⟨rfl, hu1⟩)
  repeat' ((fail_if_success (with_reducible refine stop_append rfl ?_)); (fail_if_success (with_reducible refine stop_copy rfl ?_)); first | go_values | go_skip | go_guarded | go_step | go_upon | (simp only []; go_at_K))
  go_ret
  exact ⟨rfl, hu1⟩
end Go.Proofs.Ytdmmpcdilkcfjaa
