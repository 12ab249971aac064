/- agiolaw20.awake. -/
import Derived.Test.YtdmmpcdilkcfjaaSideC
import Derived.Test.YtdmmpcdilkcfjaaSide7
namespace Go.Proofs.Ytdmmpcdilkcfjaa
open Go.RowKit Agio Go.Maps

def o7 : Ord := ⟨7, 1, 1, 10, 1, false, 0⟩
def o8 : Ord := ⟨8, 1, 1, 11, 1, false, 0⟩
def o9 : Ord := ⟨9, 1, 1, 10, 1, false, 0⟩
theorem ord_at {w : World} {A : Option Addr} {n : Nat} {L : List Ord} (h : RdS Ord.cells 7 w A n L) {i : Nat} (hi : i < L.length) : ∃ ad, A = some ad ∧ w.cell? (ad.add (i * 7)) = some (.int .i64 L[i].id) ∧
    w.cell? ⟨(ad.add (i * 7)).block, (ad.add (i * 7)).off + 1, none⟩ = some (.int .i64 L[i].client) ∧ w.cell? ⟨(ad.add (i * 7)).block, (ad.add (i * 7)).off + 2, none⟩ = some (.int .i64 L[i].side) ∧
    w.cell? ⟨(ad.add (i * 7)).block, (ad.add (i * 7)).off + 3, none⟩ = some (.int .i64 L[i].price) ∧ w.cell? ⟨(ad.add (i * 7)).block, (ad.add (i * 7)).off + 4, none⟩ = some (.int .i64 L[i].qty) ∧
    w.cell? ⟨(ad.add (i * 7)).block, (ad.add (i * 7)).off + 5, none⟩ = some (.bool L[i].peg) ∧ w.cell? ⟨(ad.add (i * 7)).block, (ad.add (i * 7)).off + 6, none⟩ = some (.int .i64 L[i].off) := by
  obtain ⟨ad, e, h0, hj⟩ := h.at_ ord_len hi
  exact ⟨ad, e, h0 _ rfl, hj 1 _ (by omega) rfl, hj 2 _ (by omega) rfl, hj 3 _ (by omega) rfl, hj 4 _ (by omega) rfl, hj 5 _ (by omega) rfl, hj 6 _ (by omega) rfl⟩

set_option maxRecDepth 100000 in
set_option maxHeartbeats 2000000 in
theorem awake20 (w : World) : Calls Try.prog 7 #[] w fun e w' => e = .returned (.bool true) ∧ Upd [] [] w w' := by
  have e1 : insO 1 o7 [] = [o7] := rfl
  have e2 : insO 1 o8 [o7] = [o8, o7] := rfl
  have e3 : insO 1 o9 [o8, o7] = [o8, o7, o9] := rfl
  go_enter Try.func7, Try.ntmps7
  repeat' ((fail_if_success (with_reducible refine stop_append rfl ?_)); (fail_if_success (with_reducible refine stop_copy rfl ?_)); first | go_values | go_skip | go_guarded | go_step | go_upon | (simp only []; go_at_K))
  ((with_reducible refine (sideNew _ 1 (.inl rfl)).mono ?_); rintro e w1 ⟨g, bo, br, rfl, h1, hu1⟩)
  repeat' ((fail_if_success (with_reducible refine stop_append rfl ?_)); (fail_if_success (with_reducible refine stop_copy rfl ?_)); first | go_values | go_skip | go_guarded | go_step | go_upon | (simp only []; go_at_K))
  ((refine (sidePut w1 g bo br 1 [] [] h1 o7 rfl rfl (wf64 (by decide) (by decide)) (by decide)).mono ?_); rintro e w2 ⟨R2, rfl, h2, hu2⟩)
  rw [e1] at h2
  repeat' ((fail_if_success (with_reducible refine stop_append rfl ?_)); (fail_if_success (with_reducible refine stop_copy rfl ?_)); first | go_values | go_skip | go_guarded | go_step | go_upon | (simp only []; go_at_K))
  ((refine (sidePut w2 g bo br 1 R2 [o7] h2 o8 rfl rfl (wf64 (by decide) (by decide)) (by decide)).mono ?_); rintro e w3 ⟨R3, rfl, h3, hu3⟩)
  rw [e2] at h3
  repeat' ((fail_if_success (with_reducible refine stop_append rfl ?_)); (fail_if_success (with_reducible refine stop_copy rfl ?_)); first | go_values | go_skip | go_guarded | go_step | go_upon | (simp only []; go_at_K))
  ((refine (sidePut w3 g bo br 1 R3 [o8, o7] h3 o9 rfl rfl (wf64 (by decide) (by decide)) (by decide)).mono ?_); rintro e w4 ⟨R4, rfl, h4, hu4⟩)
  rw [e3] at h4
  have U4 : Upd [] [] w w4 := (((hu1.trans hu2).trans hu3).trans hu4).gives (by simp)
  clear h1 h2 h3 hu1 hu2 hu3 hu4
  repeat' ((fail_if_success (with_reducible refine stop_append rfl ?_)); (fail_if_success (with_reducible refine stop_copy rfl ?_)); first | go_values | go_skip | go_guarded | go_step | go_upon | (simp only []; go_at_K))
  ((refine (sideList w4 g bo br 1 R4 _ h4).mono ?_); rintro e w5 ⟨A, c, rfl, ho, hu5⟩)
  have h5 := h4.upd0 hu5
  repeat' ((fail_if_success (with_reducible refine stop_append rfl ?_)); (fail_if_success (with_reducible refine stop_copy rfl ?_)); first | go_values | go_skip | go_guarded | go_step | go_upon | (simp only []; go_at_K))
  ((refine (sideBest w5 g bo br 1 R4 _ h5).mono ?_); rintro e w6 ⟨rfl, hu6⟩)
  have hr : RdS Ord.cells 7 w6 A 3 [o8, o7, o9] := ⟨rfl, (ho.upd hu6 (by simp)).rd⟩
  obtain ⟨ad, rfl, p0, -⟩ := ord_at hr (i := 0) (by decide)
  obtain ⟨ad1, e1', p1, -⟩ := ord_at hr (i := 1) (by decide)
  obtain ⟨ad2, e2', p2, -⟩ := ord_at hr (i := 2) (by decide)
  injection e1' with e1'
  injection e2' with e2'
  subst e1' e2'
  have hb : bestO [o8, o7, o9] = 11 := rfl
  simp only [List.getElem_cons_zero, List.getElem_cons_succ, o7, o8, o9] at p0 p1 p2
  have U6 := (U4.trans (hu5.gives (b' := []) (by simp))).trans hu6
  have p0' : w6.cell? ad = some (.int .i64 8) := by simpa [Addr.add] using p0
  have p1' : w6.cell? ⟨ad.block, ad.off + 7, none⟩ = some (.int .i64 7) := p1
  have p2' : w6.cell? ⟨ad.block, ad.off + 14, none⟩ = some (.int .i64 9) := p2
  clear p0 p1 p2 hr ho h5 h4 hu5 hu6
  repeat' ((fail_if_success (with_reducible refine stop_append rfl ?_)); (fail_if_success (with_reducible refine stop_copy rfl ?_)); first | go_values | go_skip | go_guarded | go_step | go_upon | (simp only []; go_at_K))
  go_ret
  exact ⟨rfl, U6⟩
end Go.Proofs.Ytdmmpcdilkcfjaa
