/- Items, as they lie in memory and as they are laid down: agiolaw02.lay. -/
import Derived.Test.YtchlceolccfdhaaDoorWriter
namespace Go.Proofs.YtchlceolccfdhaaDoor
open Go.RowKit Agio

theorem flat_len {α β : Type} {f : α → List β} {s : Nat} (hs : ∀ x, (f x).length = s) (l : List α) : (l.flatMap f).length = l.length * s := by
  induction l with
  | nil => simp
  | cons x l ih => simp [hs, ih, Nat.add_mul, Nat.add_comm]
theorem flat_get {α β : Type} {f : α → List β} {s : Nat} (hs : ∀ x, (f x).length = s) (l : List α) : ∀ (i j : Nat) (hi : i < l.length), j < s → (l.flatMap f)[i * s + j]? = (f l[i])[j]? := by
  induction l with
  | nil => intro i j hi; simp at hi
  | cons x l ih =>
    intro i j hi hj
    rw [List.flatMap_cons]
    cases i with
    | zero => rw [List.getElem?_append_left (by rw [hs]; omega)]; simp
    | succ i =>
      have e : (i + 1) * s + j = s + (i * s + j) := by rw [Nat.add_mul]; omega
      rw [e, List.getElem?_append_right (by rw [hs]; omega), hs, Nat.add_sub_cancel_left]
      simpa using ih i j (by simpa using hi) hj

theorem fld (a : Addr) (m j : Nat) (hj : 0 < j) : (⟨(a.add m).block, (a.add m).off + j, none⟩ : Addr) = a.add (m + j) := by
  rw [← add_of_add]
  generalize a.add m = x
  unfold Addr.add; rw [if_neg (by omega)]

theorem I64_wrap (n : Int) : I64 (wrap64 n) := by unfold I64 wrap64; omega
/-- An item. -/
structure It where
  kind : Int
  n : Nat
  A : Option Addr
  k : Nat
  c : Nat
  b : List UInt8
def It.cells (x : It) : List Value := [.int .i64 x.kind, .int .u64 (x.n : Int), .slice x.A x.k x.c]
/-- What is laid down of it. -/
def It.bytes (x : It) : List UInt8 := if x.kind = 0 then leb x.n else if x.kind = 1 then leb (zig (wrap64 (x.n : Int))) else leb x.b.length ++ x.b
def laidBytes (l : List It) (i : Nat) : List UInt8 := (l.take i).flatMap It.bytes
theorem laidBytes_succ {l : List It} {i : Nat} (h : i < l.length) : laidBytes l (i + 1) = laidBytes l i ++ l[i].bytes := by
  unfold laidBytes; rw [List.take_succ_eq_append_getElem h, List.flatMap_append]; simp
structure Items (w : World) (A : Option Addr) (n : Nat) (l : List It) : Prop where
  len : n = l.length
  rd : Rd w 3 A n (l.flatMap It.cells)
  each : ∀ x ∈ l, RdB w x.A x.k x.b ∧ U64 x.n
theorem Items.upd {w w' : World} {A : Option Addr} {n : Nat} {l : List It} {b : List Nat} (h : Items w A n l) (hu : Upd [] b w w') : Items w' A n l :=
  ⟨h.len, h.rd.upd hu (by simp), fun x hx => ⟨(h.each x hx).1.upd hu (by simp), (h.each x hx).2⟩⟩
theorem Items.at_ {w : World} {A : Option Addr} {n i : Nat} {l : List It} (h : Items w A n l) (hi : i < l.length) : ∃ ad, A = some ad ∧ w.cell? (ad.add (i * 3)) = some (.int .i64 l[i].kind) ∧ w.cell? ⟨(ad.add (i * 3)).block, (ad.add (i * 3)).off + 1, none⟩ = some (.int .u64 (l[i].n : Int)) ∧ w.cell? ⟨(ad.add (i * 3)).block, (ad.add (i * 3)).off + 2, none⟩ = some (.slice l[i].A l[i].k l[i].c) := by
  obtain ⟨ad, e, hc⟩ := h.rd.2 (by rw [h.len]; omega)
  have hs : ∀ x : It, x.cells.length = 3 := fun _ => rfl
  have g0 := flat_get hs l i 0 hi (by omega)
  have g1 := flat_get hs l i 1 hi (by omega)
  have g2 := flat_get hs l i 2 hi (by omega)
  refine ⟨ad, e, hc _ _ (by simpa [It.cells] using g0), ?_, ?_⟩
  · rw [fld _ _ _ (by omega)]; exact hc _ _ (by simpa [It.cells] using g1)
  · rw [fld _ _ _ (by omega)]; exact hc _ _ (by simpa [It.cells] using g2)

set_option maxRecDepth 100000 in
set_option maxHeartbeats 4000000 in
theorem lay_any (w : World) (A : Option Addr) (n c : Nat) (l : List It) (hl : Items w A n l) (hb : ∀ i, i ≤ l.length → i ≤ 100 → (laidBytes l i).length + 32 ≤ 140737488355328) (hn : n ≤ 140737488355328) :
    Calls Tryd.prog 21 #[.slice A n c] w fun ev w' => ∃ A' k' c', ev = .returned (.slice A' k' c') ∧ OwnB 5 w' A' k' c' (laidBytes l 100) ∧ Upd [] (ablk A') w w' := by
  obtain rfl := hl.len
  go_enter Tryd.func21, Tryd.ntmps21
  repeat' ((fail_if_success (refine stop_append rfl ?_)); (fail_if_success (refine stop_copy rfl ?_)); first | go_values | go_skip | go_guarded | go_step | go_upon | (simp only []; go_at_K))
  go_loopw [4] (fun v4 wr => ∃ (i : Nat) (A2 : Option Addr) (k2 c2 : Nat), i ≤ l.length ∧ i ≤ 100 ∧ v4 = .int .i64 (i : Int) ∧ Wr wr w.heap.size A2 k2 c2 (laidBytes l i) ∧ Upd [] (w.heap.size :: ablk A2) w wr)
    (fun v4 _ => 100 - (intOf v4).toNat)
  case atStart => exact ⟨0, none, 0, 0, by omega, by omega, rfl, ⟨Blk.new _ _ _, (OwnB.nil _ _).alloc _⟩, ((Upd.refl _ _).alloc _).gives (by simp [ablk])⟩
  case round =>
    obtain ⟨i, A2, k2, c2, hi, hi100, rfl, hwr, hu⟩ := hrel
    by_cases hlt : i < l.length
    · by_cases hlt2 : i < 100
      · have hlr := hl.upd hu
        obtain ⟨ad, rfl, h0, h1, h2⟩ := hlr.at_ hlt
        have hE := hlr.each l[i] (List.getElem_mem hlt)
        have hbi := hb i (by omega) (by omega)
        have hbs := hb (i + 1) (by omega) (by omega)
        rw [laidBytes_succ hlt, List.length_append] at hbs
        have HS := Lib.hid (laidBytes_succ hlt)
        have hcl := hwr.lt
        have hx0 := (hl.each l[i] (List.getElem_mem hlt)).1.lt
        generalize l[i] = x at *
        by_cases hk0 : x.kind = 0
        · have hk0' : (x.kind == 0) = true := by simp [hk0]
          have HB := Lib.hid (show x.bytes = leb x.n by simp [It.bytes, hk0])
          clear hk0
          repeat' ((fail_if_success (refine stop_append rfl ?_)); (fail_if_success (refine stop_copy rfl ?_)); first | go_values | go_skip | go_guarded | go_step | go_upon | (simp only []; go_at_K))
          refine (writerUint _ wr w.heap.size A2 k2 c2 _ (by omega) (by simpa using hE.2) hwr (by omega)).mono ?_
          rintro ev w3 ⟨rfl, A3, k3, c3, hw3, hu3⟩
          rw [Int.toNat_natCast] at hw3
          repeat' ((fail_if_success (refine stop_append rfl ?_)); (fail_if_success (refine stop_copy rfl ?_)); first | go_values | go_skip | go_guarded | go_step | go_upon | (simp only []; go_at_K))
          refine ⟨⟨i + 1, A3, k3, c3, by omega, by omega, rfl, ?_, hu.trans hu3⟩, by simp [intOf]; omega⟩
          rw [HS.out, HB.out]; exact hw3
        · have hk0' : (x.kind == 0) = false := by simp [hk0]
          by_cases hk1 : x.kind = 1
          · have hk1' : (x.kind == 1) = true := by simp [hk1]
            have HB := Lib.hid (show x.bytes = leb (zig (wrap64 (x.n : Int))) by simp [It.bytes, hk1])
            clear hk1
            repeat' ((fail_if_success (refine stop_append rfl ?_)); (fail_if_success (refine stop_copy rfl ?_)); first | go_values | go_skip | go_guarded | go_step | go_upon | (simp only []; go_at_K))
            refine (writerInt _ wr w.heap.size A2 k2 c2 _ (by unfold I64 wrap64; omega) hwr (by omega)).mono ?_
            rintro ev w3 ⟨rfl, A3, k3, c3, hw3, hu3⟩
            repeat' ((fail_if_success (refine stop_append rfl ?_)); (fail_if_success (refine stop_copy rfl ?_)); first | go_values | go_skip | go_guarded | go_step | go_upon | (simp only []; go_at_K))
            refine ⟨⟨i + 1, A3, k3, c3, by omega, by omega, rfl, ?_, hu.trans hu3⟩, by simp [intOf]; omega⟩
            rw [HS.out, HB.out]; exact hw3
          · have hk1' : (x.kind == 1) = false := by simp [hk1]
            have HB := Lib.hid (show x.bytes = leb x.b.length ++ x.b by simp [It.bytes, hk0, hk1])
            have hbl : x.b.length ≤ x.bytes.length := by rw [HB.out]; simp
            clear hk0 hk1
            repeat' ((fail_if_success (refine stop_append rfl ?_)); (fail_if_success (refine stop_copy rfl ?_)); first | go_values | go_skip | go_guarded | go_step | go_upon | (simp only []; go_at_K))
            refine (writerBytes wr w.heap.size A2 k2 c2 _ x.A x.k x.c x.b hE.1 ?_ hwr (by omega)).mono ?_
            · intro hpos j hj hm
              have h3 := hx0 hpos j hj
              rcases hu.fresh j hm with h4 | h4
              · cases h4
              · omega
            rintro ev w3 ⟨rfl, A3, k3, c3, hw3, hu3⟩
            rw [List.append_assoc] at hw3
            repeat' ((fail_if_success (refine stop_append rfl ?_)); (fail_if_success (refine stop_copy rfl ?_)); first | go_values | go_skip | go_guarded | go_step | go_upon | (simp only []; go_at_K))
            refine ⟨⟨i + 1, A3, k3, c3, by omega, by omega, rfl, ?_, hu.trans hu3⟩, by simp [intOf]; omega⟩
            rw [HS.out, HB.out]; exact hw3
      · obtain rfl : i = 100 := by omega
        have hb1 := hb 100 hi hi100
        repeat' ((fail_if_success (refine stop_append rfl ?_)); (fail_if_success (refine stop_copy rfl ?_)); first | go_values | go_skip | go_guarded | go_step | go_upon | (simp only []; go_at_K))
        refine (writerTold _ _ A2 k2 c2 _ hwr (by omega)).mono ?_
        rintro ev w3 ⟨A3, k3, c3, rfl, ho3, hu3⟩
        repeat' ((fail_if_success (refine stop_append rfl ?_)); (fail_if_success (refine stop_copy rfl ?_)); first | go_values | go_skip | go_guarded | go_step | go_upon | (simp only []; go_at_K))
        go_ret
        exact ⟨A3, k3, c3, rfl, ho3, (hu.gives (b' := []) (by simp)).trans hu3⟩
    · have hb1 := hb i hi hi100
      have HE : Hid (laidBytes l i = laidBytes l 100) := by unfold laidBytes Hid; rw [List.take_of_length_le (by omega), List.take_of_length_le (by omega)]
      repeat' ((fail_if_success (refine stop_append rfl ?_)); (fail_if_success (refine stop_copy rfl ?_)); first | go_values | go_skip | go_guarded | go_step | go_upon | (simp only []; go_at_K))
      refine (writerTold _ _ A2 k2 c2 _ hwr (by omega)).mono ?_
      rintro ev w3 ⟨A3, k3, c3, rfl, ho3, hu3⟩
      repeat' ((fail_if_success (refine stop_append rfl ?_)); (fail_if_success (refine stop_copy rfl ?_)); first | go_values | go_skip | go_guarded | go_step | go_upon | (simp only []; go_at_K))
      go_ret
      exact ⟨A3, k3, c3, rfl, by rw [← HE.out]; exact ho3, (hu.gives (b' := []) (by simp)).trans hu3⟩
end Go.Proofs.YtchlceolccfdhaaDoor
